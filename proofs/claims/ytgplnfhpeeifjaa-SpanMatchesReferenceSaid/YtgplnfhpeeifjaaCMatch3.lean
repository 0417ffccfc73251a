/- For any two lists of spans and any number, all functions on lists of spans give what the reference gives; conditions: the arguments are values that Go can hold, nothing else.
   The walk of the law's code and its plain law (merged by wip/tools/trim.py out of own texts and of texts that the kit's printer wrote). -/
import Derived.Test.YtgplnfhpeeifjaaCMatch2
namespace Go.Proofs.Ytgplnfhpeeifjaa.Q
open Go.RowKit Go.Proofs.YtgplnfhpeeifjaaW.PrintWords Go.Proofs.YtgplnfhpeeifjaaW.PrintLast Go.Proofs.YtgplnfhpeeifjaaW.PrintMore
attribute [local go_sem] max2_int min2_int max_two min_two max_three min_three max_four min_four   -- for this text's walks alone
set_option linter.unusedVariables false
set_option linter.unusedSimpArgs false
structure ClosOk (g : Nat) (fn : Func) (pp : Int → Int → Option Bool) : Prop where
  hf : Try.prog.funcs[g]? = some fn
  hname : (fn.name == "runtime.NumGoroutine") = false
  hb : fn.body.isSome = true
  hc : ∀ (a0_0 a0_1 : Int) (r : Bool) (w : World), pp a0_0 a0_1 = some r → Calls Try.prog g #[.agg #[.int .i64 a0_0, .int .i64 a0_1]] w fun e w' => e = .returned (.bool r) ∧ Below w.heap.size w w'
section
variable (pp : Int → Int → Option Bool)
mutual
def span_combine.l0 : Nat → List (S54) → List (List (S33)) → Int → Int → Option ((List (S33)))
  | 0, _, _, _, _ => none
  | k + 1, x5, x16, x17, x18 => if x18 < x17 then (if 0 ≤ x18 then (if x18 < (x16.length : Int) then (span_combine.l1 k x5 x18 x16 x17 x18 (rd_L4 x16 x18) ((rd_L4 x16 x18).length : Int) 0) else (none)) else (none)) else ((span_edge__span_combine_1.f x5).bind fun t120 => (span_combine.l2 k t120 ([] : List (S33)) false 0 t120 (t120.length : Int) 0 0 0))
def span_combine.l1 : Nat → List (S54) → Int → List (List (S33)) → Int → Int → List (S33) → Int → Int → Option ((List (S33)))
  | 0, _, _, _, _, _, _, _, _ => none
  | k + 1, x5, x6, x16, x17, x18, x23, x24, x25 => if x25 < x24 then (if 0 ≤ x25 then (if x25 < (x23.length : Int) then ((span_proper.f ((rd_T33 x23 x25).f0) ((rd_T33 x23 x25).f1)).bind fun t113 => (if t113 = true then ((some (([(⟨(rd_T33 x23 x25).f0, x6, 1⟩ : S54), (⟨(rd_T33 x23 x25).f1, x6, (-1)⟩ : S54)] : List (S54)) : List (S54))).bind fun y114 => (if x5.length + y114.length < 5864062014805 then (span_combine.l1 k (x5 ++ y114) x6 x16 x17 x18 x23 x24 (wrap64 (x25 + 1))) else (none))) else (span_combine.l1 k x5 x6 x16 x17 x18 x23 x24 (wrap64 (x25 + 1))))) else (none)) else (none)) else (span_combine.l0 k x5 x16 x17 (wrap64 (x18 + 1)))
def span_combine.l2 : Nat → List (S54) → List (S33) → Bool → Int → List (S54) → Int → Int → Int → Int → Option ((List (S33)))
  | 0, _, _, _, _, _, _, _, _, _ => none
  | k + 1, x5, x10, x12, x13, x46, x47, x48, x124000, x124001 => if x48 < x47 then (if 0 ≤ x48 then (if x48 < (x46.length : Int) then (if ((rd_T54 x46 x48).f1) = 0 then (if (wrap64 (x48 + 1)) < (x5.length : Int) then (if 0 ≤ (wrap64 (x48 + 1)) then (if ((rd_T54 x5 (wrap64 (x48 + 1))).f0) = ((rd_T54 x46 x48).f0) then (span_combine.j3 k x5 x10 x12 x13 x46 x47 x48 true (wrap64 (x124000 + ((rd_T54 x46 x48).f2))) x124001 ((rd_T54 x46 x48).f0) ((rd_T54 x46 x48).f1) ((rd_T54 x46 x48).f2)) else ((pp (wrap64 (x124000 + ((rd_T54 x46 x48).f2))) x124001).bind fun t127 => (span_combine.j3 k x5 x10 x12 x13 x46 x47 x48 (t127 == x12) (wrap64 (x124000 + ((rd_T54 x46 x48).f2))) x124001 ((rd_T54 x46 x48).f0) ((rd_T54 x46 x48).f1) ((rd_T54 x46 x48).f2)))) else (none)) else ((pp (wrap64 (x124000 + ((rd_T54 x46 x48).f2))) x124001).bind fun t128 => (span_combine.j3 k x5 x10 x12 x13 x46 x47 x48 (t128 == x12) (wrap64 (x124000 + ((rd_T54 x46 x48).f2))) x124001 ((rd_T54 x46 x48).f0) ((rd_T54 x46 x48).f1) ((rd_T54 x46 x48).f2)))) else (if ((rd_T54 x46 x48).f1) = 1 then (if (wrap64 (x48 + 1)) < (x5.length : Int) then (if 0 ≤ (wrap64 (x48 + 1)) then (if ((rd_T54 x5 (wrap64 (x48 + 1))).f0) = ((rd_T54 x46 x48).f0) then (span_combine.j4 k x5 x10 x12 x13 x46 x47 x48 true x124000 (wrap64 (x124001 + ((rd_T54 x46 x48).f2))) ((rd_T54 x46 x48).f0) ((rd_T54 x46 x48).f1) ((rd_T54 x46 x48).f2)) else ((pp x124000 (wrap64 (x124001 + ((rd_T54 x46 x48).f2)))).bind fun t133 => (span_combine.j4 k x5 x10 x12 x13 x46 x47 x48 (t133 == x12) x124000 (wrap64 (x124001 + ((rd_T54 x46 x48).f2))) ((rd_T54 x46 x48).f0) ((rd_T54 x46 x48).f1) ((rd_T54 x46 x48).f2)))) else (none)) else ((pp x124000 (wrap64 (x124001 + ((rd_T54 x46 x48).f2)))).bind fun t134 => (span_combine.j4 k x5 x10 x12 x13 x46 x47 x48 (t134 == x12) x124000 (wrap64 (x124001 + ((rd_T54 x46 x48).f2))) ((rd_T54 x46 x48).f0) ((rd_T54 x46 x48).f1) ((rd_T54 x46 x48).f2)))) else (none))) else (none)) else (none)) else (some x10)
def span_combine.j3 : Nat → List (S54) → List (S33) → Bool → Int → List (S54) → Int → Int → Bool → Int → Int → Int → Int → Int → Option ((List (S33)))
  | 0, _, _, _, _, _, _, _, _, _, _, _, _, _ => none
  | k + 1, x5, x10, x12, x13, x46, x47, x48, x83, x124000, x124001, x126000, x126001, x126002 => if x83 = true then (span_combine.l2 k x5 x10 x12 x13 x46 x47 (wrap64 (x48 + 1)) x124000 x124001) else (if x12 = true then (if x10.length < 8796093022208 then (span_combine.l2 k x5 (x10 ++ [(⟨x13, x126000⟩ : S33)]) (!x12) x126000 x46 x47 (wrap64 (x48 + 1)) x124000 x124001) else (none)) else (span_combine.l2 k x5 x10 (!x12) x126000 x46 x47 (wrap64 (x48 + 1)) x124000 x124001))
def span_combine.j4 : Nat → List (S54) → List (S33) → Bool → Int → List (S54) → Int → Int → Bool → Int → Int → Int → Int → Int → Option ((List (S33)))
  | 0, _, _, _, _, _, _, _, _, _, _, _, _, _ => none
  | k + 1, x5, x10, x12, x13, x46, x47, x48, x83, x124000, x124001, x126000, x126001, x126002 => if x83 = true then (span_combine.l2 k x5 x10 x12 x13 x46 x47 (wrap64 (x48 + 1)) x124000 x124001) else (if x12 = true then (if x10.length < 8796093022208 then (span_combine.l2 k x5 (x10 ++ [(⟨x13, x126000⟩ : S33)]) (!x12) x126000 x46 x47 (wrap64 (x48 + 1)) x124000 x124001) else (none)) else (span_combine.l2 k x5 x10 (!x12) x126000 x46 x47 (wrap64 (x48 + 1)) x124000 x124001))
end
def span_combine.f (k : Nat)  (l1 : List (List (S33))) : Option ((List (S33))) := span_combine.l0 pp k ([] : List (S54)) l1 (l1.length : Int) 0
theorem span_combine.mono_l : ∀ k, (∀ y0 y1 y2 y3, LeO (span_combine.l0 pp k y0 y1 y2 y3) (span_combine.l0 pp (k + 1) y0 y1 y2 y3)) ∧ (∀ y0 y1 y2 y3 y4 y5 y6 y7, LeO (span_combine.l1 pp k y0 y1 y2 y3 y4 y5 y6 y7) (span_combine.l1 pp (k + 1) y0 y1 y2 y3 y4 y5 y6 y7)) ∧ (∀ y0 y1 y2 y3 y4 y5 y6 y7 y8, LeO (span_combine.l2 pp k y0 y1 y2 y3 y4 y5 y6 y7 y8) (span_combine.l2 pp (k + 1) y0 y1 y2 y3 y4 y5 y6 y7 y8)) ∧ (∀ y0 y1 y2 y3 y4 y5 y6 y7 y8 y9 y10 y11 y12, LeO (span_combine.j3 pp k y0 y1 y2 y3 y4 y5 y6 y7 y8 y9 y10 y11 y12) (span_combine.j3 pp (k + 1) y0 y1 y2 y3 y4 y5 y6 y7 y8 y9 y10 y11 y12)) ∧ (∀ y0 y1 y2 y3 y4 y5 y6 y7 y8 y9 y10 y11 y12, LeO (span_combine.j4 pp k y0 y1 y2 y3 y4 y5 y6 y7 y8 y9 y10 y11 y12) (span_combine.j4 pp (k + 1) y0 y1 y2 y3 y4 y5 y6 y7 y8 y9 y10 y11 y12))
  | 0 => ⟨fun _ _ _ _ r h => by simp [span_combine.l0] at h, fun _ _ _ _ _ _ _ _ r h => by simp [span_combine.l1] at h, fun _ _ _ _ _ _ _ _ _ r h => by simp [span_combine.l2] at h, fun _ _ _ _ _ _ _ _ _ _ _ _ _ r h => by simp [span_combine.j3] at h, fun _ _ _ _ _ _ _ _ _ _ _ _ _ r h => by simp [span_combine.j4] at h⟩
  | k + 1 => by
    obtain ⟨ih0, ih1, ih2, ih3, ih4⟩ := span_combine.mono_l k
    refine ⟨?_, ?_, ?_, ?_, ?_⟩
    · intro y0 y1 y2 y3
      unfold span_combine.l0
      repeat' first
      | (with_reducible exact ih0 _ _ _ _)
      | (with_reducible exact ih1 _ _ _ _ _ _ _ _)
      | (with_reducible exact ih2 _ _ _ _ _ _ _ _ _)
      | (with_reducible exact ih3 _ _ _ _ _ _ _ _ _ _ _ _ _)
      | (with_reducible exact ih4 _ _ _ _ _ _ _ _ _ _ _ _ _)
      | (with_reducible exact LeO.refl _)
      | (with_reducible exact LeO.none _)
      | (with_reducible refine LeO.ite ?_ ?_)
      | (with_reducible refine LeO.bind ?_ (fun _ => ?_))
      | exact ih0 _ _ _ _
      | exact ih1 _ _ _ _ _ _ _ _
      | exact ih2 _ _ _ _ _ _ _ _ _
      | exact ih3 _ _ _ _ _ _ _ _ _ _ _ _ _
      | exact ih4 _ _ _ _ _ _ _ _ _ _ _ _ _
      | exact LeO.none _
      | refine LeO.ite ?_ ?_
      | refine LeO.bind ?_ (fun _ => ?_)
    · intro y0 y1 y2 y3 y4 y5 y6 y7
      unfold span_combine.l1
      repeat' first
      | (with_reducible exact ih0 _ _ _ _)
      | (with_reducible exact ih1 _ _ _ _ _ _ _ _)
      | (with_reducible exact ih2 _ _ _ _ _ _ _ _ _)
      | (with_reducible exact ih3 _ _ _ _ _ _ _ _ _ _ _ _ _)
      | (with_reducible exact ih4 _ _ _ _ _ _ _ _ _ _ _ _ _)
      | (with_reducible exact LeO.refl _)
      | (with_reducible exact LeO.none _)
      | (with_reducible refine LeO.ite ?_ ?_)
      | (with_reducible refine LeO.bind ?_ (fun _ => ?_))
      | exact ih0 _ _ _ _
      | exact ih1 _ _ _ _ _ _ _ _
      | exact ih2 _ _ _ _ _ _ _ _ _
      | exact ih3 _ _ _ _ _ _ _ _ _ _ _ _ _
      | exact ih4 _ _ _ _ _ _ _ _ _ _ _ _ _
      | exact LeO.none _
      | refine LeO.ite ?_ ?_
      | refine LeO.bind ?_ (fun _ => ?_)
    · intro y0 y1 y2 y3 y4 y5 y6 y7 y8
      unfold span_combine.l2
      repeat' first
      | (with_reducible exact ih0 _ _ _ _)
      | (with_reducible exact ih1 _ _ _ _ _ _ _ _)
      | (with_reducible exact ih2 _ _ _ _ _ _ _ _ _)
      | (with_reducible exact ih3 _ _ _ _ _ _ _ _ _ _ _ _ _)
      | (with_reducible exact ih4 _ _ _ _ _ _ _ _ _ _ _ _ _)
      | (with_reducible exact LeO.refl _)
      | (with_reducible exact LeO.none _)
      | (with_reducible refine LeO.ite ?_ ?_)
      | (with_reducible refine LeO.bind ?_ (fun _ => ?_))
      | exact ih0 _ _ _ _
      | exact ih1 _ _ _ _ _ _ _ _
      | exact ih2 _ _ _ _ _ _ _ _ _
      | exact ih3 _ _ _ _ _ _ _ _ _ _ _ _ _
      | exact ih4 _ _ _ _ _ _ _ _ _ _ _ _ _
      | exact LeO.none _
      | refine LeO.ite ?_ ?_
      | refine LeO.bind ?_ (fun _ => ?_)
    · intro y0 y1 y2 y3 y4 y5 y6 y7 y8 y9 y10 y11 y12
      unfold span_combine.j3
      repeat' first
      | (with_reducible exact ih0 _ _ _ _)
      | (with_reducible exact ih1 _ _ _ _ _ _ _ _)
      | (with_reducible exact ih2 _ _ _ _ _ _ _ _ _)
      | (with_reducible exact ih3 _ _ _ _ _ _ _ _ _ _ _ _ _)
      | (with_reducible exact ih4 _ _ _ _ _ _ _ _ _ _ _ _ _)
      | (with_reducible exact LeO.refl _)
      | (with_reducible exact LeO.none _)
      | (with_reducible refine LeO.ite ?_ ?_)
      | (with_reducible refine LeO.bind ?_ (fun _ => ?_))
      | exact ih0 _ _ _ _
      | exact ih1 _ _ _ _ _ _ _ _
      | exact ih2 _ _ _ _ _ _ _ _ _
      | exact ih3 _ _ _ _ _ _ _ _ _ _ _ _ _
      | exact ih4 _ _ _ _ _ _ _ _ _ _ _ _ _
      | exact LeO.none _
      | refine LeO.ite ?_ ?_
      | refine LeO.bind ?_ (fun _ => ?_)
    · intro y0 y1 y2 y3 y4 y5 y6 y7 y8 y9 y10 y11 y12
      unfold span_combine.j4
      repeat' first
      | (with_reducible exact ih0 _ _ _ _)
      | (with_reducible exact ih1 _ _ _ _ _ _ _ _)
      | (with_reducible exact ih2 _ _ _ _ _ _ _ _ _)
      | (with_reducible exact ih3 _ _ _ _ _ _ _ _ _ _ _ _ _)
      | (with_reducible exact ih4 _ _ _ _ _ _ _ _ _ _ _ _ _)
      | (with_reducible exact LeO.refl _)
      | (with_reducible exact LeO.none _)
      | (with_reducible refine LeO.ite ?_ ?_)
      | (with_reducible refine LeO.bind ?_ (fun _ => ?_))
      | exact ih0 _ _ _ _
      | exact ih1 _ _ _ _ _ _ _ _
      | exact ih2 _ _ _ _ _ _ _ _ _
      | exact ih3 _ _ _ _ _ _ _ _ _ _ _ _ _
      | exact ih4 _ _ _ _ _ _ _ _ _ _ _ _ _
      | exact LeO.none _
      | refine LeO.ite ?_ ?_
      | refine LeO.bind ?_ (fun _ => ?_)
theorem span_combine.mono : ∀ a0 k, LeO (span_combine.f pp k a0) (span_combine.f pp (k + 1) a0) := by
  intro a0 k
  obtain ⟨ih0, ih1, ih2, ih3, ih4⟩ := span_combine.mono_l pp k
  unfold span_combine.f
  repeat' first
      | (with_reducible exact ih0 _ _ _ _)
      | (with_reducible exact ih1 _ _ _ _ _ _ _ _)
      | (with_reducible exact ih2 _ _ _ _ _ _ _ _ _)
      | (with_reducible exact ih3 _ _ _ _ _ _ _ _ _ _ _ _ _)
      | (with_reducible exact ih4 _ _ _ _ _ _ _ _ _ _ _ _ _)
      | (with_reducible exact LeO.refl _)
      | (with_reducible exact LeO.none _)
      | (with_reducible refine LeO.ite ?_ ?_)
      | (with_reducible refine LeO.bind ?_ (fun _ => ?_))
      | exact ih0 _ _ _ _
      | exact ih1 _ _ _ _ _ _ _ _
      | exact ih2 _ _ _ _ _ _ _ _ _
      | exact ih3 _ _ _ _ _ _ _ _ _ _ _ _ _
      | exact ih4 _ _ _ _ _ _ _ _ _ _ _ _ _
      | exact LeO.none _
      | refine LeO.ite ?_ ?_
      | refine LeO.bind ?_ (fun _ => ?_)
def span_combine.T19 : Bool × List (List Nat × List Nat) := (true, [([], []), ([0], [0]), ([1], [1]), ([2], [2]), ([], []), ([4], [4]), ([3, 5], [3, 5]), ([1, 0, 1, 2, 3, 4, 5, 6], [1]), ([7, 6, 0, 1, 2, 3, 4, 5, 6], [6, 7])])
def span_combine.B19 : List Nat := [0, 1, 3, 7, 0, 16, 63, 127, 255]
theorem span_combine.tab19 : rtab .any (opsOf Try.f35 19) = span_combine.T19 := by kernel_rfl
theorem span_combine.bits19 : waitsOk span_combine.T19.2 span_combine.B19 = true := by kernel_rfl
def span_combine.T20 : Bool × List (List Nat × List Nat) := (true, [([], []), ([0], [0]), ([], []), ([2], [2]), ([1, 3], [1, 3]), ([4], [4]), ([5], [5]), ([5], [5]), ([7, 5], [5, 7]), ([6, 8, 5], [5, 6, 8]), ([9, 5], [5, 9]), ([10, 5], [5, 10]), ([5], [5]), ([12, 5], [5, 12]), ([11, 13, 5], [5, 11, 13]), ([5, 14], [5, 14]), ([15, 5], [15]), ([16], [16]), ([16], [16]), ([17, 18, 16, 16], [16, 17, 18]), ([16], [16]), ([19, 20, 16], [16, 19, 20]), ([16, 21], [16, 21])])
def span_combine.B20 : List Nat := [0, 1, 0, 4, 15, 31, 63, 63, 191, 511, 1023, 2047, 63, 4159, 16383, 32767, 65535, 131071, 131071, 524287, 131071, 2097151, 4194303]
theorem span_combine.tab20 : rtab .any (opsOf Try.f35 20) = span_combine.T20 := by kernel_rfl
theorem span_combine.bits20 : waitsOk span_combine.T20.2 span_combine.B20 = true := by kernel_rfl
set_option maxHeartbeats 8000000 in
set_option maxRecDepth 100000 in
theorem span_combine.calls {g : Nat} {fn : Func} (hcl : ClosOk g fn pp) (k : Nat)  (A1 : Option Addr) (c1 : Nat) (l1 : List (List (S33))) (r : List (S33)) (w : World) (hr1 : Kd.C (Kd.slice 33 k33) w A1 l1.length l1) (hc1 : l1.length ≤ c1) (h : span_combine.f pp k l1 = some r) :
    Calls Try.prog 35 #[.func (.func g) #[] #[], .slice A1 l1.length c1] w fun e w' => ∃ v0_ : Value, e = .returned (v0_) ∧ Kd.R k33 33 w' w.heap.size (fun _ => True) v0_ r ∧ Below w.heap.size w w' := by
  have hu33 := Try.underlying33
  have hu54 := Try.underlying54
  have hu48 := Try.underlying48
  have HR1 := Az hr1
  have HC1 := Az hc1
  clear hr1 hc1
  have HB := Az (Below.refl w.heap.size w)
  have H : (span_combine.l0 pp k ([] : List (S54)) l1 (l1.length : Int) 0) = some r := h
  clear h
  have H' := Az H
  clear H
  go_enter Try.func35, Try.ntmps35
  go_wp2
  go_loopg [5, 18] k (fun kq v5 v18 w' => ∃ (x5_1 : List (S54)) (x18_1 : Int), v18 = .int .i64 x18_1 ∧ Aside0 (span_combine.l0 pp kq x5_1 l1 (l1.length : Int) x18_1 = some r) ∧ Aside0 (kq ≤ k) ∧ Aside0 (Kd.R k54 54 w' w.heap.size (fun _ => True) v5 x5_1) ∧ Aside0 (Below w.heap.size w w'))
  case atStart => exact ⟨(([] : List (S54))), (0), (by first | rfl | (simp; done) | (simp [*]; done)), H', ⟨Nat.le_refl _⟩, ⟨by first | exact Kd.R_nil _ _ _ _ _ | exact Kd.N_nil _ _ _ _ _ | exact Kd.V_nil _ _ _ _ _ | exact Kd.Q_nil _ _ _ _ _ | exact Kd.S_nil _ _ _ _ _⟩, ⟨by repeat (with_reducible first | exact HB.out | apply bal | apply bdN | apply bd1)⟩⟩
  case round =>
    clear H'
    try clear c1
    try clear p2
    obtain ⟨x5_1, x18_1, rfl, HA, HK1, HO_5, HB⟩ := hrel
    cases gk with
    | zero => exact absurd HA.out (by simp [span_combine.l0])
    | succ k1 =>
      have H := HA.out
      clear HA
      simp only [span_combine.l0] at H
      by_cases c3 : x18_1 < (l1.length : Int)
      · rw [if_pos c3] at H
        have c3b0 : decide (x18_1 < (l1.length : Int)) = true := decide_eq_true c3
        clear c3
        by_cases c4 : 0 ≤ x18_1
        · rw [if_pos c4] at H
          have c4b0 : decide (0 ≤ x18_1) = true := decide_eq_true c4
          clear c4
          by_cases c5 : x18_1 < (l1.length : Int)
          · rw [if_pos c5] at H
            have c5b0 : decide (x18_1 < (l1.length : Int)) = true := decide_eq_true c5
            clear c5
            have H' := Az H
            clear H
            have p110 : 0 ≤ (x18_1 : Int) := of_decide_eq_true (by first | (with_reducible assumption) | assumption)
            have q110 : x18_1 < (l1.length : Int) := of_decide_eq_true (by first | (with_reducible assumption) | assumption)
            obtain ⟨ad110, A110_0, c110_0, e110, hx110_0, hl110_0, hi110_0⟩ := at_L4 HR1.out x18_1 p110 q110
            cases e110
            replace hx110_0 := (HB.out.cell (World.block_lt_of_cell? w _ hx110_0)).trans hx110_0
            have HR110_0 := Az hi110_0
            have HC110_0 := Az hl110_0
            clear hi110_0 hl110_0
            replace p110 := eq_true p110
            replace q110 := eq_true q110
            go_wp2
            go_loopg [5, 25] k1 (fun kq v5 v25 w' => ∃ (x5_2 : List (S54)) (x25_2 : Int), v25 = .int .i64 x25_2 ∧ Aside0 (span_combine.l1 pp kq x5_2 x18_1 l1 (l1.length : Int) x18_1 (rd_L4 l1 x18_1) ((rd_L4 l1 x18_1).length : Int) x25_2 = some r) ∧ Aside0 (kq ≤ k1) ∧ Aside0 (Kd.R k54 54 w' w.heap.size (fun _ => True) v5 x5_2) ∧ Aside0 (Below w.heap.size w w'))
            case atStart => exact ⟨(x5_1), (0), (by first | rfl | (simp; done) | (simp [*]; done)), H', ⟨Nat.le_refl _⟩, ⟨by (with_reducible repeat (first | apply Kd.R_alloc | apply Kd.R_drewN | apply Kd.R_drew)); exact HO_5.out⟩, ⟨by repeat (with_reducible first | exact HB.out | apply bal | apply bdN | apply bd1)⟩⟩
            case round =>
              clear H'
              try clear c1
              try clear p1
              try clear q1
              try clear hx1
              try clear p2
              try clear c3
              try clear c3b0
              try clear c4
              try clear c4b0
              try clear c5
              try clear c5b0
              try clear hx110_0
              try clear p110
              try clear p2
              try clear q110
              obtain ⟨x5_2, x25_2, rfl, HA, HK2, HO_5, HB⟩ := hrel
              cases gk with
              | zero => exact absurd HA.out (by simp [span_combine.l1])
              | succ k2 =>
                have H := HA.out
                clear HA
                simp only [span_combine.l1] at H
                by_cases c6 : x25_2 < ((rd_L4 l1 x18_1).length : Int)
                · rw [if_pos c6] at H
                  have c6b0 : decide (x25_2 < ((rd_L4 l1 x18_1).length : Int)) = true := decide_eq_true c6
                  clear c6
                  by_cases c7 : 0 ≤ x25_2
                  · rw [if_pos c7] at H
                    have c7b0 : decide (0 ≤ x25_2) = true := decide_eq_true c7
                    clear c7
                    by_cases c8 : x25_2 < ((rd_L4 l1 x18_1).length : Int)
                    · rw [if_pos c8] at H
                      have c8b0 : decide (x25_2 < ((rd_L4 l1 x18_1).length : Int)) = true := decide_eq_true c8
                      clear c8
                      replace H := Option.bind_eq_some_iff.mp H
                      obtain ⟨t113, A90, H⟩ := H
                      replace H : (if t113 = true then ((some (([(⟨(rd_T33 (rd_L4 l1 x18_1) x25_2).f0, x18_1, 1⟩ : S54), (⟨(rd_T33 (rd_L4 l1 x18_1) x25_2).f1, x18_1, (-1)⟩ : S54)] : List (S54)) : List (S54))).bind fun y114 => (if x5_2.length + y114.length < 5864062014805 then (span_combine.l1 pp k2 (x5_2 ++ y114) x18_1 l1 (l1.length : Int) x18_1 (rd_L4 l1 x18_1) ((rd_L4 l1 x18_1).length : Int) (wrap64 (x25_2 + 1))) else (none))) else (span_combine.l1 pp k2 x5_2 x18_1 l1 (l1.length : Int) x18_1 (rd_L4 l1 x18_1) ((rd_L4 l1 x18_1).length : Int) (wrap64 (x25_2 + 1)))) = some r := H
                      have A9 := Az A90
                      clear A90
                      by_cases c10 : t113 = true
                      · subst c10
                        have H1 : ((some (([(⟨(rd_T33 (rd_L4 l1 x18_1) x25_2).f0, x18_1, 1⟩ : S54), (⟨(rd_T33 (rd_L4 l1 x18_1) x25_2).f1, x18_1, (-1)⟩ : S54)] : List (S54)) : List (S54))).bind fun y114 => (if x5_2.length + y114.length < 5864062014805 then (span_combine.l1 pp k2 (x5_2 ++ y114) x18_1 l1 (l1.length : Int) x18_1 (rd_L4 l1 x18_1) ((rd_L4 l1 x18_1).length : Int) (wrap64 (x25_2 + 1))) else (none))) = some r := by rw [if_pos rfl] at H; exact H
                        clear H
                        have H := H1
                        clear H1
                        obtain ⟨y114, hy114⟩ : ∃ y_ : List (S54), y_ = (([(⟨(rd_T33 (rd_L4 l1 x18_1) x25_2).f0, x18_1, 1⟩ : S54), (⟨(rd_T33 (rd_L4 l1 x18_1) x25_2).f1, x18_1, (-1)⟩ : S54)] : List (S54))) := ⟨_, rfl⟩
                        replace H : (if x5_2.length + y114.length < 5864062014805 then (span_combine.l1 pp k2 (x5_2 ++ y114) x18_1 l1 (l1.length : Int) x18_1 (rd_L4 l1 x18_1) ((rd_L4 l1 x18_1).length : Int) (wrap64 (x25_2 + 1))) else (none)) = some r := by first | (rw [hy114]; with_reducible exact H) | (have H2_ := (Option.bind_some _ _).symm.trans H; rw [hy114]; with_reducible exact H2_) | (have H2_ := (Option.bind_some _ _).symm.trans H; with_reducible exact H2_) | with_reducible exact H | (rw [hy114]; exact H) | exact H
                        have Ny114 := Az hy114
                        clear hy114
                        by_cases c11 : x5_2.length + y114.length < 5864062014805
                        · rw [if_pos c11] at H
                          have LMc11 := Az c11
                          clear c11
                          obtain ⟨y117, hy117⟩ : ∃ y_ : List (S54), y_ = (x5_2 ++ y114) := ⟨_, rfl⟩
                          replace H : (span_combine.l1 pp k2 y117 x18_1 l1 (l1.length : Int) x18_1 (rd_L4 l1 x18_1) ((rd_L4 l1 x18_1).length : Int) (wrap64 (x25_2 + 1))) = some r := by first | (rw [hy117]; with_reducible exact H) | (have H2_ := (Option.bind_some _ _).symm.trans H; rw [hy117]; with_reducible exact H2_) | (have H2_ := (Option.bind_some _ _).symm.trans H; with_reducible exact H2_) | with_reducible exact H | (rw [hy117]; exact H) | exact H
                          have Ny117 := Az hy117
                          clear hy117
                          have H' := Az H
                          clear H
                          have p111 : 0 ≤ (x25_2 : Int) := of_decide_eq_true (by first | (with_reducible assumption) | assumption)
                          have q111 : x25_2 < ((rd_L4 l1 x18_1).length : Int) := of_decide_eq_true (by first | (with_reducible assumption) | assumption)
                          obtain ⟨ad111, e111, hx111_0, hx111_1⟩ := at_T33 HR110_0.out x25_2 p111 q111
                          cases e111
                          replace hx111_0 := (HB.out.cell (World.block_lt_of_cell? w _ hx111_0)).trans hx111_0
                          replace hx111_1 := (HB.out.cell (World.block_lt_of_cell? w _ hx111_1)).trans hx111_1
                          replace p111 := eq_true p111
                          replace q111 := eq_true q111
                          go_wp2_with (first | ((with_reducible refine gate_dst (N := 9) rfl ?_); refine box_event ?hg (N := 9) ?hd (cs := #[.int .i64 0, .int .i64 0]) (t := 33) ?hr ?_; (case hd => rfl); (case hg => rfl); (case hr => first | (go_simp; done) | (go_simp; rfl)); intro gb112 hg w12 hbox hb; have n0_ := Az (Kd.R_below (by (with_reducible repeat (first | apply Kd.R_alloc | apply Kd.R_drewN | apply Kd.R_drew)); exact HO_5.out) hb); have n1_ := Az (below_step (by repeat (with_reducible first | exact HB.out | apply bal | apply bdN | apply bd1)) hb); have n2_ := Az (hbox); have n3_ := Az ((by rw [hg]; exact (below_size (by repeat (with_reducible first | exact HB.out | apply bal | apply bdN | apply bd1))) : w.heap.size ≤ gb112)); have n4_ := Az ((by rw [hg]; exact (below_size (by repeat (with_reducible first | exact HB.out | apply bal | apply bdN | apply bd1))) : w.heap.size ≤ gb112)); clear HO_5; clear HB; have HO_5 := n0_; have HB := n1_; have BK112 := n2_; have GW112 := n3_; have GE112 := n4_; clear n0_ n1_ n2_ n3_ n4_; clear hb hbox hg; have hcz13_0 : w12.cell? ⟨gb112, 0, none⟩ = some (.int .i64 0) := (blk_cell BK112.out 0).trans rfl; have hcz13_1 : w12.cell? ⟨gb112, 1, none⟩ = some (.int .i64 0) := (blk_cell BK112.out 1).trans rfl; have hfz13_0 := blk_frozen BK112.out 0; have hfz13_1 := blk_frozen BK112.out 1) | ((with_reducible refine gate_callee (f := 41) rfl ?_); refine goesL_ (some 30) rfl rfl Try.func41 (by kernel_rfl) rfl #[.agg #[.int .i64 ((rd_T33 (rd_L4 l1 x18_1) x25_2).f0), .int .i64 ((rd_T33 (rd_L4 l1 x18_1) x25_2).f1)]] rfl (by (try simp only [List.map_toArray, List.map_cons, List.map_nil]); first | done | rfl) ?_; (with_reducible refine (span_proper.calls ((rd_T33 (rd_L4 l1 x18_1) x25_2).f0) ((rd_T33 (rd_L4 l1 x18_1) x25_2).f1) true _ A9.out).mono ?_); rintro e w14 ⟨rfl, hb⟩; refine ⟨_, rfl, ?_⟩; have n0_ := Az (Kd.R_below (by (with_reducible repeat (first | apply Kd.R_alloc | apply Kd.R_drewN | apply Kd.R_drew)); exact (Kd.R_mono (Kd.R_far (p := ⟨gb112, 1, none⟩) (Kd.R_far (p := ⟨gb112, 0, none⟩) (Kd.R_types HO_5.out BK112.out (by decide)) (fun _ hk => hk.2) (.int .i64 ((rd_T33 (rd_L4 l1 x18_1) x25_2).f0))) (fun _ hk => hk.2) (.int .i64 ((rd_T33 (rd_L4 l1 x18_1) x25_2).f1))) (fun _ h_ => h_.1))) hb); have n1_ := Az (blk_below (g := gb112) (o := .cells #[.int .i64 ((rd_T33 (rd_L4 l1 x18_1) x25_2).f0), .int .i64 ((rd_T33 (rd_L4 l1 x18_1) x25_2).f1)] 33 (0, 0)) (by (with_reducible repeat (first | refine blk_drewN ?_ _ | refine blk_drew ?_ | refine blk_alloc ?_ _)); refine blk_put (cs := #[.int .i64 ((rd_T33 (rd_L4 l1 x18_1) x25_2).f0), .int .i64 0]) ?_ 1 _ rfl; (with_reducible repeat (first | refine blk_drewN ?_ _ | refine blk_drew ?_ | refine blk_alloc ?_ _)); refine blk_put (cs := #[.int .i64 0, .int .i64 0]) ?_ 0 _ rfl; (with_reducible repeat (first | refine blk_drewN ?_ _ | refine blk_drew ?_ | refine blk_alloc ?_ _)); exact BK112.out) hb); have n2_ := Az (below_step (by repeat (first | (with_reducible first | exact HB.out | apply bal | apply bdN | apply bd1 | refine below_set ?_ GE112.out) | exact HB.out)) hb); clear HO_5; clear BK112; clear HB; have HO_5 := n0_; have BK112 := n1_; have HB := n2_; clear n0_ n1_ n2_; (try clear hb); (try clear hb2); (try clear hk); (try clear hi); have hcz15_0 : w14.cell? ⟨gb112, 0, none⟩ = some (.int .i64 ((rd_T33 (rd_L4 l1 x18_1) x25_2).f0)) := (blk_cell BK112.out 0).trans rfl; have hcz15_1 : w14.cell? ⟨gb112, 1, none⟩ = some (.int .i64 ((rd_T33 (rd_L4 l1 x18_1) x25_2).f1)) := (blk_cell BK112.out 1).trans rfl; have hfz15_0 := blk_frozen BK112.out 0; have hfz15_1 := blk_frozen BK112.out 1) | ((with_reducible refine gate_dst (N := 40) rfl ?_); refine Kd.R_lit k54 _ 54 ?hg (N := 40) ?hd (xs := ([(⟨(rd_T33 (rd_L4 l1 x18_1) x25_2).f0, x18_1, 1⟩ : S54), (⟨(rd_T33 (rd_L4 l1 x18_1) x25_2).f1, x18_1, (-1)⟩ : S54)] : List (S54))) (inner := [.int .i64 ((rd_T33 (rd_L4 l1 x18_1) x25_2).f0), .int .i64 x18_1, .int .i64 1, .int .i64 ((rd_T33 (rd_L4 l1 x18_1) x25_2).f1), .int .i64 x18_1, .int .i64 (-1)]) (ok := fun _ => True) (okp := fun _ => True) ?hr ?hp (fun _ hk => hk) trivial (Below.refl _ _) (Nat.le_refl _) (by simp) ?_; (case hd => rfl); (case hg => rfl); (case hr => first | (go_simp; done) | (go_simp; rfl)); (case hp => exact (Reps.c3 (show Kd.M k54 _ _ _ (⟨(rd_T33 (rd_L4 l1 x18_1) x25_2).f0, x18_1, 1⟩ : S54) [.int .i64 ((rd_T33 (rd_L4 l1 x18_1) x25_2).f0), .int .i64 x18_1, .int .i64 1] from (k54_mkM _ _ _ (⟨(rd_T33 (rd_L4 l1 x18_1) x25_2).f0, x18_1, 1⟩ : S54) )) (Reps.c3 (show Kd.M k54 _ _ _ (⟨(rd_T33 (rd_L4 l1 x18_1) x25_2).f1, x18_1, (-1)⟩ : S54) [.int .i64 ((rd_T33 (rd_L4 l1 x18_1) x25_2).f1), .int .i64 x18_1, .int .i64 (-1)] from (k54_mkM _ _ _ (⟨(rd_T33 (rd_L4 l1 x18_1) x25_2).f1, x18_1, (-1)⟩ : S54) )) (Reps.none _ _)))); intro v115 w16 ho17 hb hg_ hnew_; clear hg_ hnew_; (first | rw [← Ny114.out] at ho17 | (simp only [Int.reduceToNat] at ho17; rw [← Ny114.out] at ho17)); have n0_ := Az (Kd.R_elder' (by (with_reducible repeat (first | apply Kd.R_alloc | apply Kd.R_drewN | apply Kd.R_drew)); exact HO_5.out) (Kd.R_base ho17) hb); have n1_ := Az (Kd.R_lower (Kd.R_new' ho17 (Kd.R_lt (by (with_reducible repeat (first | apply Kd.R_alloc | apply Kd.R_drewN | apply Kd.R_drew)); exact HO_5.out))) (below_size (by repeat (first | (with_reducible first | exact HB.out | apply bal | apply bdN | apply bd1 | refine below_set ?_ GE112.out) | exact HB.out)))); have n2_ := Az (blk_below (g := gb112) (o := .cells #[.int .i64 ((rd_T33 (rd_L4 l1 x18_1) x25_2).f0), .int .i64 ((rd_T33 (rd_L4 l1 x18_1) x25_2).f1)] 33 (0, 0)) (by (with_reducible repeat (first | refine blk_drewN ?_ _ | refine blk_drew ?_ | refine blk_alloc ?_ _)); exact BK112.out) hb); have n3_ := Az (below_step (by repeat (first | (with_reducible first | exact HB.out | apply bal | apply bdN | apply bd1 | refine below_set ?_ GE112.out) | exact HB.out)) hb); clear HO_5; clear BK112; clear HB; have HO_5 := n0_; have HO116 := n1_; have BK112 := n2_; have HB := n3_; clear n0_ n1_ n2_ n3_; clear hb ho17; obtain ⟨Ao19, co19, eo19⟩ := Kd.R_slice HO116.out; subst eo19) | ((with_reducible refine gate_builtin (b := .append) (xs := #[.tmp 31, .tmp 40]) rfl ?_); at_builtin; refine Kd.R_append_rows k54 (w0 := w) w.heap.size rfl (.tmp 31) (.tmp 40) 52 54 (.agg #[(.int .i64 0), (.int .i64 0), (.int .i64 0)]) 24 rfl Try.underlying52 info54 rfl (by decide) (by omega) u5 x5_2 y114 _ _ _ (fun k_ => some k_ ≠ (.slice Ao19 y114.length co19 : Value).ownBlock) (fun _ => False) rfl rfl ?aO ?aR (fun _ _ h => h) (fun _ h => h.elim) ?aF ?aB ?aS ?aL ?_; (case aR => repeat (first | exact (Kd.R_reads' HO116.out).2.2 | (with_reducible refine Kd.C_alloc ?_ _) | (with_reducible refine Kd.C_drewN ?_ _) | (with_reducible refine Kd.C_drew ?_))); (case aB => exact (by repeat (first | (with_reducible first | exact HB.out | apply bal | apply bdN | apply bd1 | refine below_set ?_ GE112.out) | exact HB.out))); (case aF => exact (fun k_ hk => Kd.fresh' (Kd.R_lt (by (with_reducible repeat (first | apply Kd.R_alloc | apply Kd.R_drewN | apply Kd.R_drew)); exact HO116.out)) k_ hk)); (case aO => exact (by (with_reducible repeat (first | apply Kd.R_alloc | apply Kd.R_drewN | apply Kd.R_drew)); exact Kd.R_mono HO_5.out (fun _ hk => hk.2))); (case aS => exact (below_size (by repeat (first | (with_reducible first | exact HB.out | apply bal | apply bdN | apply bd1 | refine below_set ?_ GE112.out) | exact HB.out)))); (case aL => have := LMc11.out; omega); intro v118 w18 ho hb hg hat; rw [← Ny117.out] at ho; have n0_ := Az (blk_grown (g := gb112) (o := .cells #[.int .i64 ((rd_T33 (rd_L4 l1 x18_1) x25_2).f0), .int .i64 ((rd_T33 (rd_L4 l1 x18_1) x25_2).f1)] 33 (0, 0)) (by (with_reducible repeat (first | refine blk_drewN ?_ _ | refine blk_drew ?_ | refine blk_alloc ?_ _)); exact BK112.out) hg (Kd.R_ne HO_5.out BK112.out (by decide))); have n1_ := Az (Kd.R_after (ok := (fun _ => True)) (by (with_reducible repeat (first | apply Kd.R_alloc | apply Kd.R_drewN | apply Kd.R_drew)); exact HO116.out) hg hat); have n2_ := Az (hb); have n3_ := Az (ho); clear BK112; clear HO116; clear HB; clear HO_5; have BK112 := n0_; have HO116 := n1_; have HB := n2_; have HO119 := n3_; clear n0_ n1_ n2_ n3_; clear ho hb hg hat))
                          go_roundg k2
                          case measure => have := HK1.out; have := HK2.out; omega
                          case rel => exact ⟨(y117), (wrap64 (x25_2 + 1)), (by first | rfl | (simp; done) | (simp [*]; done)), H', ⟨by have := HK1.out; have := HK2.out; omega⟩, ⟨by (with_reducible repeat (first | apply Kd.R_alloc | apply Kd.R_drewN | apply Kd.R_drew)); exact Kd.R_mono HO119.out (fun _ hk => trivial)⟩, ⟨by repeat (first | (with_reducible first | exact HB.out | apply bal | apply bdN | apply bd1 | refine below_set ?_ GE112.out) | exact HB.out)⟩⟩
                        · rw [if_neg c11] at H
                          exact absurd H (by simp)
                      · replace c10 := Bool.eq_false_iff.mpr c10
                        subst c10
                        have H1 : (span_combine.l1 pp k2 x5_2 x18_1 l1 (l1.length : Int) x18_1 (rd_L4 l1 x18_1) ((rd_L4 l1 x18_1).length : Int) (wrap64 (x25_2 + 1))) = some r := by rw [if_neg (show ¬ (false = true) by decide)] at H; exact H
                        clear H
                        have H := H1
                        clear H1
                        have H' := Az H
                        clear H
                        have p111 : 0 ≤ (x25_2 : Int) := of_decide_eq_true (by first | (with_reducible assumption) | assumption)
                        have q111 : x25_2 < ((rd_L4 l1 x18_1).length : Int) := of_decide_eq_true (by first | (with_reducible assumption) | assumption)
                        obtain ⟨ad111, e111, hx111_0, hx111_1⟩ := at_T33 HR110_0.out x25_2 p111 q111
                        cases e111
                        replace hx111_0 := (HB.out.cell (World.block_lt_of_cell? w _ hx111_0)).trans hx111_0
                        replace hx111_1 := (HB.out.cell (World.block_lt_of_cell? w _ hx111_1)).trans hx111_1
                        replace p111 := eq_true p111
                        replace q111 := eq_true q111
                        go_wp2_with (first | ((with_reducible refine gate_dst (N := 9) rfl ?_); refine box_event ?hg (N := 9) ?hd (cs := #[.int .i64 0, .int .i64 0]) (t := 33) ?hr ?_; (case hd => rfl); (case hg => rfl); (case hr => first | (go_simp; done) | (go_simp; rfl)); intro gb112 hg w20 hbox hb; have n0_ := Az (Kd.R_below (by (with_reducible repeat (first | apply Kd.R_alloc | apply Kd.R_drewN | apply Kd.R_drew)); exact HO_5.out) hb); have n1_ := Az (below_step (by repeat (with_reducible first | exact HB.out | apply bal | apply bdN | apply bd1)) hb); have n2_ := Az (hbox); have n3_ := Az ((by rw [hg]; exact (below_size (by repeat (with_reducible first | exact HB.out | apply bal | apply bdN | apply bd1))) : w.heap.size ≤ gb112)); have n4_ := Az ((by rw [hg]; exact (below_size (by repeat (with_reducible first | exact HB.out | apply bal | apply bdN | apply bd1))) : w.heap.size ≤ gb112)); clear HO_5; clear HB; have HO_5 := n0_; have HB := n1_; have BK112 := n2_; have GW112 := n3_; have GE112 := n4_; clear n0_ n1_ n2_ n3_ n4_; clear hb hbox hg; have hcz21_0 : w20.cell? ⟨gb112, 0, none⟩ = some (.int .i64 0) := (blk_cell BK112.out 0).trans rfl; have hcz21_1 : w20.cell? ⟨gb112, 1, none⟩ = some (.int .i64 0) := (blk_cell BK112.out 1).trans rfl; have hfz21_0 := blk_frozen BK112.out 0; have hfz21_1 := blk_frozen BK112.out 1) | ((with_reducible refine gate_callee (f := 41) rfl ?_); refine goesL_ (some 30) rfl rfl Try.func41 (by kernel_rfl) rfl #[.agg #[.int .i64 ((rd_T33 (rd_L4 l1 x18_1) x25_2).f0), .int .i64 ((rd_T33 (rd_L4 l1 x18_1) x25_2).f1)]] rfl (by (try simp only [List.map_toArray, List.map_cons, List.map_nil]); first | done | rfl) ?_; (with_reducible refine (span_proper.calls ((rd_T33 (rd_L4 l1 x18_1) x25_2).f0) ((rd_T33 (rd_L4 l1 x18_1) x25_2).f1) false _ A9.out).mono ?_); rintro e w22 ⟨rfl, hb⟩; refine ⟨_, rfl, ?_⟩; have n0_ := Az (Kd.R_below (by (with_reducible repeat (first | apply Kd.R_alloc | apply Kd.R_drewN | apply Kd.R_drew)); exact (Kd.R_mono (Kd.R_far (p := ⟨gb112, 1, none⟩) (Kd.R_far (p := ⟨gb112, 0, none⟩) (Kd.R_types HO_5.out BK112.out (by decide)) (fun _ hk => hk.2) (.int .i64 ((rd_T33 (rd_L4 l1 x18_1) x25_2).f0))) (fun _ hk => hk.2) (.int .i64 ((rd_T33 (rd_L4 l1 x18_1) x25_2).f1))) (fun _ h_ => h_.1))) hb); have n1_ := Az (blk_below (g := gb112) (o := .cells #[.int .i64 ((rd_T33 (rd_L4 l1 x18_1) x25_2).f0), .int .i64 ((rd_T33 (rd_L4 l1 x18_1) x25_2).f1)] 33 (0, 0)) (by (with_reducible repeat (first | refine blk_drewN ?_ _ | refine blk_drew ?_ | refine blk_alloc ?_ _)); refine blk_put (cs := #[.int .i64 ((rd_T33 (rd_L4 l1 x18_1) x25_2).f0), .int .i64 0]) ?_ 1 _ rfl; (with_reducible repeat (first | refine blk_drewN ?_ _ | refine blk_drew ?_ | refine blk_alloc ?_ _)); refine blk_put (cs := #[.int .i64 0, .int .i64 0]) ?_ 0 _ rfl; (with_reducible repeat (first | refine blk_drewN ?_ _ | refine blk_drew ?_ | refine blk_alloc ?_ _)); exact BK112.out) hb); have n2_ := Az (below_step (by repeat (first | (with_reducible first | exact HB.out | apply bal | apply bdN | apply bd1 | refine below_set ?_ GE112.out) | exact HB.out)) hb); clear HO_5; clear BK112; clear HB; have HO_5 := n0_; have BK112 := n1_; have HB := n2_; clear n0_ n1_ n2_; (try clear hb); (try clear hb2); (try clear hk); (try clear hi)))
                        go_roundg k2
                        case measure => have := HK1.out; have := HK2.out; omega
                        case rel => exact ⟨(x5_2), (wrap64 (x25_2 + 1)), (by first | rfl | (simp; done) | (simp [*]; done)), H', ⟨by have := HK1.out; have := HK2.out; omega⟩, ⟨by (with_reducible repeat (first | apply Kd.R_alloc | apply Kd.R_drewN | apply Kd.R_drew)); exact HO_5.out⟩, ⟨by repeat (first | (with_reducible first | exact HB.out | apply bal | apply bdN | apply bd1 | refine below_set ?_ GE112.out) | exact HB.out)⟩⟩
                    · rw [if_neg c8] at H
                      exact absurd H (by simp)
                  · rw [if_neg c7] at H
                    exact absurd H (by simp)
                · rw [if_neg c6] at H
                  have c6b0 : decide (x25_2 < ((rd_L4 l1 x18_1).length : Int)) = false := decide_eq_false c6
                  clear c6
                  have H' := Az H
                  clear H
                  go_wp2
                  go_roundg k2
                  case measure => have := HK1.out; have := HK2.out; omega
                  case rel => exact ⟨(x5_2), (wrap64 (x18_1 + 1)), (by first | rfl | (simp; done) | (simp [*]; done)), H', ⟨by have := HK1.out; have := HK2.out; omega⟩, ⟨by (with_reducible repeat (first | apply Kd.R_alloc | apply Kd.R_drewN | apply Kd.R_drew)); exact HO_5.out⟩, ⟨by repeat (with_reducible first | exact HB.out | apply bal | apply bdN | apply bd1)⟩⟩
          · rw [if_neg c5] at H
            exact absurd H (by simp)
        · rw [if_neg c4] at H
          exact absurd H (by simp)
      · rw [if_neg c3] at H
        have c3b0 : decide (x18_1 < (l1.length : Int)) = false := decide_eq_false c3
        clear c3
        replace H := Option.bind_eq_some_iff.mp H
        obtain ⟨t120, A230, H⟩ := H
        replace H : (span_combine.l2 pp k1 t120 ([] : List (S33)) false 0 t120 (t120.length : Int) 0 0 0) = some r := H
        have A23 := Az A230
        clear A230
        have H' := Az H
        clear H
        obtain ⟨Ao24, co24, eo24⟩ := Kd.R_slice HO_5.out
        subst eo24
        go_wp2_with (first | ((with_reducible refine gate_callee (f := 43) rfl ?_); refine goesL_ (some 45) rfl rfl Try.func43 (by kernel_rfl) rfl #[.slice Ao24 x5_1.length co24, .func (.func 44) #[] #[]] rfl (by (try simp only [List.map_toArray, List.map_cons, List.map_nil]); first | done | rfl) ?_; (with_reducible refine (span_edge__span_combine_1.calls _ _ x5_1 t120 _ ?side1 ?side2 A23.out).mono ?_); (case side1 => repeat (first | exact (Kd.R_reads' HO_5.out).2.2 | (with_reducible refine Kd.C_alloc ?_ _) | (with_reducible refine Kd.C_drewN ?_ _) | (with_reducible refine Kd.C_drew ?_))); (case side2 => exact (Kd.R_reads' HO_5.out).2.1); rintro e w25 ⟨v121, rfl, ho0, hb⟩; refine ⟨_, rfl, ?_⟩; have n0_ := Az (Kd.R_elder' (by (with_reducible repeat (first | apply Kd.R_alloc | apply Kd.R_drewN | apply Kd.R_drew)); exact HO_5.out) (Kd.R_base ho0) hb); have n1_ := Az (Kd.R_lower (Kd.R_new' ho0 (Kd.R_lt (by (with_reducible repeat (first | apply Kd.R_alloc | apply Kd.R_drewN | apply Kd.R_drew)); exact HO_5.out))) (below_size (by repeat (with_reducible first | exact HB.out | apply bal | apply bdN | apply bd1)))); have n2_ := Az (below_step (by repeat (with_reducible first | exact HB.out | apply bal | apply bdN | apply bd1)) hb); clear HO_5; clear HB; have HO_5 := n0_; have HO122 := n1_; have HB := n2_; clear n0_ n1_ n2_; (try clear hb); (try clear hb2); (try clear hk); (try clear hi); (try clear ho0)) | ((with_reducible refine gate_dst (N := 11) rfl ?_); refine box_event ?hg (N := 11) ?hd (cs := #[.int .i64 0, .int .i64 0]) (t := 48) ?hr ?_; (case hd => rfl); (case hg => rfl); (case hr => first | (go_simp; done) | (go_simp; rfl)); intro gb123 hg w26 hbox hb; have n0_ := Az (Kd.R_below (by (with_reducible repeat (first | apply Kd.R_alloc | apply Kd.R_drewN | apply Kd.R_drew)); exact HO_5.out) hb); have n1_ := Az (Kd.R_below (by (with_reducible repeat (first | apply Kd.R_alloc | apply Kd.R_drewN | apply Kd.R_drew)); exact HO122.out) hb); have n2_ := Az (below_step (by repeat (with_reducible first | exact HB.out | apply bal | apply bdN | apply bd1)) hb); have n3_ := Az (hbox); have n4_ := Az ((by rw [hg]; exact (below_size (by repeat (with_reducible first | exact HB.out | apply bal | apply bdN | apply bd1))) : w.heap.size ≤ gb123)); have n5_ := Az ((by rw [hg]; exact (below_size (by repeat (with_reducible first | exact HB.out | apply bal | apply bdN | apply bd1))) : w.heap.size ≤ gb123)); clear HO_5; clear HO122; clear HB; have HO_5 := n0_; have HO122 := n1_; have HB := n2_; have BK123 := n3_; have GW123 := n4_; have GE123 := n5_; clear n0_ n1_ n2_ n3_ n4_ n5_; clear hb hbox hg; obtain ⟨Ao27, co27, eo27⟩ := Kd.R_slice HO122.out; subst eo27))
        go_loopg [10, 12, 13, 48] k1 (fun kq v10 v12 v13 v48 w' => ∃ (x10_2 : List (S33)) (x12_2 : Bool) (x13_2 : Int) (x48_2 : Int) (x124000_2 : Int) (x124001_2 : Int), v12 = .bool x12_2 ∧ v13 = .int .i64 x13_2 ∧ v48 = .int .i64 x48_2 ∧ Aside0 (span_combine.l2 pp kq t120 x10_2 x12_2 x13_2 t120 (t120.length : Int) x48_2 x124000_2 x124001_2 = some r) ∧ Aside0 (kq ≤ k1) ∧ Aside0 (Kd.R k54 54 w' w.heap.size (fun _ => True) (.slice Ao27 t120.length co27) t120) ∧ Aside0 (Kd.R k33 33 w' w.heap.size (fun _ => True) v10 x10_2) ∧ Aside0 (Kd.R k54 54 w' w.heap.size (fun _ => True) (.slice Ao27 t120.length co27) t120) ∧ Aside0 (w'.heap[gb123]? = some (.cells #[.int .i64 x124000_2, .int .i64 x124001_2] 48 (0, 0))) ∧ Aside0 (Below w.heap.size w w'))
        case atStart => exact ⟨(([] : List (S33))), (false), (0), (0), (0), (0), (by first | rfl | (simp; done) | (simp [*]; done)), (by first | rfl | (simp; done) | (simp [*]; done)), (by first | rfl | (simp; done) | (simp [*]; done)), H', ⟨Nat.le_refl _⟩, ⟨by (with_reducible repeat (first | apply Kd.R_alloc | apply Kd.R_drewN | apply Kd.R_drew)); exact Kd.R_mono HO122.out (fun _ hk => trivial)⟩, ⟨by first | exact Kd.R_nil _ _ _ _ _ | exact Kd.N_nil _ _ _ _ _ | exact Kd.V_nil _ _ _ _ _ | exact Kd.Q_nil _ _ _ _ _ | exact Kd.S_nil _ _ _ _ _⟩, ⟨by (with_reducible repeat (first | apply Kd.R_alloc | apply Kd.R_drewN | apply Kd.R_drew)); exact Kd.R_mono HO122.out (fun _ hk => trivial)⟩, ⟨by (with_reducible repeat (first | refine blk_drewN ?_ _ | refine blk_drew ?_ | refine blk_alloc ?_ _)); exact BK123.out⟩, ⟨by repeat (first | (with_reducible first | exact HB.out | apply bal | apply bdN | apply bd1 | refine below_set ?_ GE123.out) | exact HB.out)⟩⟩
        case round =>
          clear H'
          try clear c1
          try clear p1
          try clear q1
          try clear hx1
          try clear p2
          try clear c3
          try clear c3b0
          try clear c4
          try clear c4b0
          try clear c5
          try clear c5b0
          try clear c6
          try clear c6b0
          try clear p6
          try clear c7
          try clear c7b0
          try clear c8
          try clear c8b0
          try clear c9
          try clear c10
          try clear c11
          try clear p11
          try clear q11
          try clear hx11
          try clear hcz13_0
          try clear hcz13_1
          try clear hcz15_0
          try clear hcz15_1
          try clear hcz21_0
          try clear hcz21_1
          try clear hfz13_0
          try clear hfz13_1
          try clear hfz15_0
          try clear hfz15_1
          try clear hfz21_0
          try clear hfz21_1
          try clear hx110_0
          try clear hx111_0
          try clear hx111_1
          try clear p1
          try clear p110
          try clear p111
          try clear p2
          try clear q1
          try clear q110
          try clear q111
          obtain ⟨x10_2, x12_2, x13_2, x48_2, x124000_2, x124001_2, rfl, rfl, rfl, HA, HK2, HO_5, HO_10, HO_46, BK123, HB⟩ := hrel
          cases gk with
          | zero => exact absurd HA.out (by simp [span_combine.l2])
          | succ k2 =>
            have H := HA.out
            clear HA
            simp only [span_combine.l2] at H
            by_cases c28 : x48_2 < (t120.length : Int)
            · rw [if_pos c28] at H
              have c28b0 : decide (x48_2 < (t120.length : Int)) = true := decide_eq_true c28
              clear c28
              by_cases c29 : 0 ≤ x48_2
              · rw [if_pos c29] at H
                have c29b0 : decide (0 ≤ x48_2) = true := decide_eq_true c29
                clear c29
                by_cases c30 : x48_2 < (t120.length : Int)
                · rw [if_pos c30] at H
                  have c30b0 : decide (x48_2 < (t120.length : Int)) = true := decide_eq_true c30
                  clear c30
                  by_cases c31 : ((rd_T54 t120 x48_2).f1) = 0
                  · rw [if_pos c31] at H
                    have c31b0 : (((rd_T54 t120 x48_2).f1) == 0) = true := beq_iff_eq.mpr c31
                    have c31b1 : (((rd_T54 t120 x48_2).f1) != 0) = false := bne_eq_false_iff_eq.mpr c31
                    have EQc31 := Az c31
                    clear c31
                    have HC32 := Az H
                    clear H
                    have p124 : 0 ≤ (x48_2 : Int) := of_decide_eq_true (by first | (with_reducible assumption) | assumption)
                    have q124 : x48_2 < (t120.length : Int) := of_decide_eq_true (by first | (with_reducible assumption) | assumption)
                    obtain ⟨ad124, e124, hx124_0, hx124_1, hx124_2⟩ := at_T54 (Kd.R_reads' HO_46.out).2.2 x48_2 p124 q124
                    cases e124
                    replace p124 := eq_true p124
                    replace q124 := eq_true q124
                    try go_wp2_with (first | ((with_reducible refine gate_dst (N := 15) rfl ?_); refine box_event ?hg (N := 15) ?hd (cs := #[.int .i64 0, .int .i64 0, .int .i64 0]) (t := 54) ?hr ?_; (case hd => rfl); (case hg => rfl); (case hr => first | (go_simp; done) | (go_simp; rfl)); intro gb125 hg w33 hbox hb; have n0_ := Az (Kd.R_below (Kd.R_elderB (by (with_reducible repeat (first | apply Kd.R_alloc | apply Kd.R_drewN | apply Kd.R_drew)); exact HO_5.out) gb125 (Nat.le_of_eq hg.symm)) hb); have n1_ := Az (Kd.R_below (by (with_reducible repeat (first | apply Kd.R_alloc | apply Kd.R_drewN | apply Kd.R_drew)); exact HO_10.out) hb); have n2_ := Az (Kd.R_below (Kd.R_elderB (by (with_reducible repeat (first | apply Kd.R_alloc | apply Kd.R_drewN | apply Kd.R_drew)); exact HO_46.out) gb125 (Nat.le_of_eq hg.symm)) hb); have n3_ := Az (blk_below (g := gb123) (o := .cells #[.int .i64 x124000_2, .int .i64 x124001_2] 48 (0, 0)) (by (with_reducible repeat (first | refine blk_drewN ?_ _ | refine blk_drew ?_ | refine blk_alloc ?_ _)); exact BK123.out) hb); have n4_ := Az (below_step (by repeat (first | (with_reducible first | exact HB.out | apply bal | apply bdN | apply bd1 | refine below_set ?_ GE123.out) | exact HB.out)) hb); have n5_ := Az (hbox); have n6_ := Az ((by rw [hg]; exact (below_size (by repeat (first | (with_reducible first | exact HB.out | apply bal | apply bdN | apply bd1 | refine below_set ?_ GE123.out) | exact HB.out))) : w.heap.size ≤ gb125)); have n7_ := Az ((by rw [hg]; exact (below_size (by repeat (first | (with_reducible first | exact HB.out | apply bal | apply bdN | apply bd1 | refine below_set ?_ GE123.out) | exact HB.out))) : w.heap.size ≤ gb125)); have n8_ := Az ((by rw [hg]; exact Nat.ne_of_lt (blk_lt (g := gb123) (o := .cells #[.int .i64 x124000_2, .int .i64 x124001_2] 48 (0, 0)) (by (with_reducible repeat (first | refine blk_drewN ?_ _ | refine blk_drew ?_ | refine blk_alloc ?_ _)); exact BK123.out)) : gb123 ≠ gb125)); have n9_ := Az ((by rw [hg]; exact Nat.ne_of_gt (blk_lt (g := gb123) (o := .cells #[.int .i64 x124000_2, .int .i64 x124001_2] 48 (0, 0)) (by (with_reducible repeat (first | refine blk_drewN ?_ _ | refine blk_drew ?_ | refine blk_alloc ?_ _)); exact BK123.out)) : gb125 ≠ gb123)); clear HO_5; clear HO_10; clear HO_46; clear BK123; clear HB; have HO_5 := n0_; have HO_10 := n1_; have HO_46 := n2_; have BK123 := n3_; have HB := n4_; have BK125 := n5_; have GW125 := n6_; have GE125 := n7_; have NB123_125 := n8_; have NB125_123 := n9_; clear n0_ n1_ n2_ n3_ n4_ n5_ n6_ n7_ n8_ n9_; clear hb hbox hg; have hnb34 := NB125_123.out; have hnc34 := NB123_125.out; have hcz35_0 : w33.cell? ⟨gb125, 0, none⟩ = some (.int .i64 0) := (blk_cell BK125.out 0).trans rfl; have hcz35_1 : w33.cell? ⟨gb125, 1, none⟩ = some (.int .i64 0) := (blk_cell BK125.out 1).trans rfl; have hcz35_2 : w33.cell? ⟨gb125, 2, none⟩ = some (.int .i64 0) := (blk_cell BK125.out 2).trans rfl; have hfz35_0 := blk_frozen BK125.out 0; have hfz35_1 := blk_frozen BK125.out 1; have hfz35_2 := blk_frozen BK125.out 2))
                    have n0_ : Aside0 (Kd.R k54 54 (((w33.setCell ⟨gb125, 0, none⟩ (.int .i64 ((rd_T54 t120 x48_2).f0))).setCell ⟨gb125, 1, none⟩ (.int .i64 ((rd_T54 t120 x48_2).f1))).setCell ⟨gb125, 2, none⟩ (.int .i64 ((rd_T54 t120 x48_2).f2))) w.heap.size (fun k_ => k_ ≠ gb125) (.slice (some ad124) t120.length co27) t120) := ⟨by (with_reducible repeat (first | apply Kd.R_alloc | apply Kd.R_drewN | apply Kd.R_drew)); exact Kd.R_mono (Kd.R_far (p := ⟨gb125, 2, none⟩) (Kd.R_far (p := ⟨gb125, 1, none⟩) (Kd.R_far (p := ⟨gb125, 0, none⟩) (Kd.R_mono HO_5.out (fun k_ hk => (⟨hk, hk.2⟩ : _ ∧ k_ ≠ gb125))) (fun _ hk => hk.2) (.int .i64 ((rd_T54 t120 x48_2).f0))) (fun _ hk => hk.2) (.int .i64 ((rd_T54 t120 x48_2).f1))) (fun _ hk => hk.2) (.int .i64 ((rd_T54 t120 x48_2).f2))) (fun _ hk => hk.1.2)⟩
                    have n1_ : Aside0 (Kd.R k33 33 (((w33.setCell ⟨gb125, 0, none⟩ (.int .i64 ((rd_T54 t120 x48_2).f0))).setCell ⟨gb125, 1, none⟩ (.int .i64 ((rd_T54 t120 x48_2).f1))).setCell ⟨gb125, 2, none⟩ (.int .i64 ((rd_T54 t120 x48_2).f2))) w.heap.size (fun _ => True) u10 x10_2) := ⟨by (with_reducible repeat (first | apply Kd.R_alloc | apply Kd.R_drewN | apply Kd.R_drew)); exact Kd.R_mono (Kd.R_far (p := ⟨gb125, 2, none⟩) (Kd.R_far (p := ⟨gb125, 1, none⟩) (Kd.R_far (p := ⟨gb125, 0, none⟩) (Kd.R_types HO_10.out BK125.out (by decide)) (fun _ hk => hk.2) (.int .i64 ((rd_T54 t120 x48_2).f0))) (fun _ hk => hk.2) (.int .i64 ((rd_T54 t120 x48_2).f1))) (fun _ hk => hk.2) (.int .i64 ((rd_T54 t120 x48_2).f2))) (fun _ hk => trivial)⟩
                    have n2_ : Aside0 (Kd.R k54 54 (((w33.setCell ⟨gb125, 0, none⟩ (.int .i64 ((rd_T54 t120 x48_2).f0))).setCell ⟨gb125, 1, none⟩ (.int .i64 ((rd_T54 t120 x48_2).f1))).setCell ⟨gb125, 2, none⟩ (.int .i64 ((rd_T54 t120 x48_2).f2))) w.heap.size (fun k_ => k_ ≠ gb125) (.slice (some ad124) t120.length co27) t120) := ⟨by (with_reducible repeat (first | apply Kd.R_alloc | apply Kd.R_drewN | apply Kd.R_drew)); exact Kd.R_mono (Kd.R_far (p := ⟨gb125, 2, none⟩) (Kd.R_far (p := ⟨gb125, 1, none⟩) (Kd.R_far (p := ⟨gb125, 0, none⟩) (Kd.R_mono HO_46.out (fun k_ hk => (⟨hk, hk.2⟩ : _ ∧ k_ ≠ gb125))) (fun _ hk => hk.2) (.int .i64 ((rd_T54 t120 x48_2).f0))) (fun _ hk => hk.2) (.int .i64 ((rd_T54 t120 x48_2).f1))) (fun _ hk => hk.2) (.int .i64 ((rd_T54 t120 x48_2).f2))) (fun _ hk => hk.1.2)⟩
                    have n3_ : Aside0 ((((w33.setCell ⟨gb125, 0, none⟩ (.int .i64 ((rd_T54 t120 x48_2).f0))).setCell ⟨gb125, 1, none⟩ (.int .i64 ((rd_T54 t120 x48_2).f1))).setCell ⟨gb125, 2, none⟩ (.int .i64 ((rd_T54 t120 x48_2).f2))).heap[gb123]? = some (.cells #[.int .i64 x124000_2, .int .i64 x124001_2] 48 (0, 0))) := ⟨by (with_reducible repeat (first | refine blk_drewN ?_ _ | refine blk_drew ?_ | refine blk_alloc ?_ _)); refine blk_far ?_ NB123_125.out _; (with_reducible repeat (first | refine blk_drewN ?_ _ | refine blk_drew ?_ | refine blk_alloc ?_ _)); refine blk_far ?_ NB123_125.out _; (with_reducible repeat (first | refine blk_drewN ?_ _ | refine blk_drew ?_ | refine blk_alloc ?_ _)); refine blk_far ?_ NB123_125.out _; (with_reducible repeat (first | refine blk_drewN ?_ _ | refine blk_drew ?_ | refine blk_alloc ?_ _)); exact BK123.out⟩
                    have n4_ : Aside0 ((((w33.setCell ⟨gb125, 0, none⟩ (.int .i64 ((rd_T54 t120 x48_2).f0))).setCell ⟨gb125, 1, none⟩ (.int .i64 ((rd_T54 t120 x48_2).f1))).setCell ⟨gb125, 2, none⟩ (.int .i64 ((rd_T54 t120 x48_2).f2))).heap[gb125]? = some (.cells #[.int .i64 ((rd_T54 t120 x48_2).f0), .int .i64 ((rd_T54 t120 x48_2).f1), .int .i64 ((rd_T54 t120 x48_2).f2)] 54 (0, 0))) := ⟨by (with_reducible repeat (first | refine blk_drewN ?_ _ | refine blk_drew ?_ | refine blk_alloc ?_ _)); refine blk_put (cs := #[.int .i64 ((rd_T54 t120 x48_2).f0), .int .i64 ((rd_T54 t120 x48_2).f1), .int .i64 0]) ?_ 2 _ rfl; (with_reducible repeat (first | refine blk_drewN ?_ _ | refine blk_drew ?_ | refine blk_alloc ?_ _)); refine blk_put (cs := #[.int .i64 ((rd_T54 t120 x48_2).f0), .int .i64 0, .int .i64 0]) ?_ 1 _ rfl; (with_reducible repeat (first | refine blk_drewN ?_ _ | refine blk_drew ?_ | refine blk_alloc ?_ _)); refine blk_put (cs := #[.int .i64 0, .int .i64 0, .int .i64 0]) ?_ 0 _ rfl; (with_reducible repeat (first | refine blk_drewN ?_ _ | refine blk_drew ?_ | refine blk_alloc ?_ _)); exact BK125.out⟩
                    have n5_ : Aside0 (Below w.heap.size w (((w33.setCell ⟨gb125, 0, none⟩ (.int .i64 ((rd_T54 t120 x48_2).f0))).setCell ⟨gb125, 1, none⟩ (.int .i64 ((rd_T54 t120 x48_2).f1))).setCell ⟨gb125, 2, none⟩ (.int .i64 ((rd_T54 t120 x48_2).f2)))) := ⟨by repeat (first | (with_reducible first | exact HB.out | apply bal | apply bdN | apply bd1 | refine below_set ?_ GE123.out | refine below_set ?_ GE125.out) | exact HB.out)⟩
                    (try clear HO_5)
                    (try clear HO_10)
                    (try clear HO_46)
                    (try clear BK123)
                    (try clear BK125)
                    (try clear HB)
                    generalize (((w33.setCell ⟨gb125, 0, none⟩ (.int .i64 ((rd_T54 t120 x48_2).f0))).setCell ⟨gb125, 1, none⟩ (.int .i64 ((rd_T54 t120 x48_2).f1))).setCell ⟨gb125, 2, none⟩ (.int .i64 ((rd_T54 t120 x48_2).f2))) = w36 at n0_ n1_ n2_ n3_ n4_ n5_ ⊢
                    have HO_5 := n0_
                    have HO_10 := n1_
                    have HO_46 := n2_
                    have BK123 := n3_
                    have BK125 := n4_
                    have HB := n5_
                    clear n0_ n1_ n2_ n3_ n4_ n5_
                    have n0_ := Az (Kd.R_drew HO_5.out)
                    have n1_ := Az (Kd.R_drew HO_10.out)
                    have n2_ := Az (Kd.R_drew HO_46.out)
                    have n3_ := Az (blk_drew BK123.out)
                    have n4_ := Az (blk_drew BK125.out)
                    have n5_ := Az (bd1 HB.out)
                    clear HO_5
                    clear HO_10
                    clear HO_46
                    clear BK123
                    clear BK125
                    clear HB
                    have HO_5 := n0_
                    have HO_10 := n1_
                    have HO_46 := n2_
                    have BK123 := n3_
                    have BK125 := n4_
                    have HB := n5_
                    clear n0_ n1_ n2_ n3_ n4_ n5_
                    refine start_ (n := 9) (S := fun w' => w'.cell? ⟨gb125, 0, none⟩ = some (.int .i64 ((rd_T54 t120 x48_2).f0)) ∧ w'.cell? ⟨gb125, 1, none⟩ = some (.int .i64 ((rd_T54 t120 x48_2).f1)) ∧ w'.cell? ⟨gb125, 2, none⟩ = some (.int .i64 ((rd_T54 t120 x48_2).f2)) ∧ w'.cell? ⟨gb123, 0, none⟩ = some (.int .i64 x124000_2) ∧ w'.cell? ⟨gb123, 1, none⟩ = some (.int .i64 x124001_2)) (ds := [8]) #[false, false, false, false, false, false, false, false, false] (by kernel_rfl) rfl rfl ⟨(blk_cell BK125.out 0).trans rfl, (blk_cell BK125.out 1).trans rfl, (blk_cell BK125.out 2).trans rfl, (blk_cell BK123.out 0).trans rfl, (blk_cell BK123.out 1).trans rfl⟩ (fun hHeld => ?_); refine with_tabW span_combine.tab19 span_combine.bits19 (fun HT_ HW_ => ?_)
                    generalize w36.drew = w37 at HO_5 HO_10 HO_46 BK123 BK125 HB hHeld ⊢
                    refine pure_ (i := 0) (N := some 53) (v := ?_) (a' := ?_) #[true, false, false, false, false, false, false, false, false] rfl rfl (any_of HT_.out (by kernel_rfl)) (fun _ _ _ h => h) (Or.inl ⟨by rfl, ?_⟩) ?_ ?_
                    rotate_left
                    · intro w'
                      (try simp only [EQc31.out])
                      go_simp
                      with_reducible rfl
                    rotate_left
                    · simp only [Act.put, lsA, lsZ, lsS, i64_w, i32_w]
                      rfl
                    refine pure_ (i := 4) (N := some 57) (v := ?_) (a' := ?_) #[true, false, false, false, true, false, false, false, false] rfl rfl (any_of HT_.out (by kernel_rfl)) (fun _ _ _ h => h) (Or.inl ⟨by rfl, ?_⟩) ?_ ?_
                    rotate_left
                    · intro w'
                      (try simp only [EQc31.out])
                      go_simp
                      with_reducible rfl
                    rotate_left
                    · simp only [Act.put, lsA, lsZ, lsS, i64_w, i32_w]
                      rfl
                    refine take_ (i := 1) (N := some 54) (v := ?_) (a' := ?_) #[true, true, false, false, true, false, false, false, false] rfl rfl (take_ofW HT_.out HW_.out (by kernel_rfl)) (fun _ _ _ h => h) (Or.inl ⟨by rfl, ?_⟩) hHeld ?_ ?_
                    rotate_left
                    · rintro w' ⟨s0, s1, s2, s3, s4⟩
                      (try simp only [EQc31.out])
                      go_simp
                      with_reducible rfl
                    rotate_left
                    · simp only [Act.put, lsA, lsZ, lsS, i64_w, i32_w]
                      rfl
                    refine pure_ (i := 2) (N := some 55) (v := ?_) (a' := ?_) #[true, true, true, false, true, false, false, false, false] rfl rfl (any_of HT_.out (by kernel_rfl)) (fun _ _ _ h => h) (Or.inl ⟨by rfl, ?_⟩) ?_ ?_
                    rotate_left
                    · intro w'
                      (try simp only [EQc31.out])
                      go_simp
                      with_reducible rfl
                    rotate_left
                    · simp only [Act.put, lsA, lsZ, lsS, i64_w, i32_w]
                      rfl
                    refine take_ (i := 3) (N := some 56) (v := ?_) (a' := ?_) #[true, true, true, true, true, false, false, false, false] rfl rfl (take_ofW HT_.out HW_.out (by kernel_rfl)) (fun _ _ _ h => h) (Or.inl ⟨by rfl, ?_⟩) hHeld ?_ ?_
                    rotate_left
                    · rintro w' ⟨s0, s1, s2, s3, s4⟩
                      (try simp only [EQc31.out])
                      go_simp
                      with_reducible rfl
                    rotate_left
                    · simp only [Act.put, lsA, lsZ, lsS, i64_w, i32_w]
                      rfl
                    refine take_ (i := 5) (N := some 58) (v := ?_) (a' := ?_) #[true, true, true, true, true, true, false, false, false] rfl rfl (take_ofW HT_.out HW_.out (by kernel_rfl)) (fun _ _ _ h => h) (Or.inl ⟨by rfl, ?_⟩) hHeld ?_ ?_
                    rotate_left
                    · rintro w' ⟨s0, s1, s2, s3, s4⟩
                      (try simp only [EQc31.out])
                      go_simp
                      with_reducible rfl
                    rotate_left
                    · simp only [Act.put, lsA, lsZ, lsS, i64_w, i32_w]
                      rfl
                    refine pure_ (i := 6) (N := some 59) (v := ?_) (a' := ?_) #[true, true, true, true, true, true, true, false, false] rfl rfl (any_of HT_.out (by kernel_rfl)) (fun _ _ _ h => h) (Or.inl ⟨by rfl, ?_⟩) ?_ ?_
                    rotate_left
                    · intro w'
                      (try simp only [EQc31.out])
                      go_simp
                      with_reducible rfl
                    rotate_left
                    · simp only [Act.put, lsA, lsZ, lsS, i64_w, i32_w]
                      rfl
                    refine pure_ (i := 7) (N := some 60) (v := ?_) (a' := ?_) #[true, true, true, true, true, true, true, true, false] rfl rfl (any_of HT_.out (by kernel_rfl)) (fun _ _ _ h => h) (Or.inl ⟨by rfl, ?_⟩) ?_ ?_
                    rotate_left
                    · intro w'
                      (try simp only [EQc31.out])
                      go_simp
                      with_reducible rfl
                    rotate_left
                    · simp only [Act.put, lsA, lsZ, lsS, i64_w, i32_w]
                      rfl
                    refine last_ (i := 8) (N := none) #[true, true, true, true, true, true, true, true, true] rfl rfl (one_of HT_.out (by kernel_rfl)) (by decide) (fun K hK => ?_)
                    have hs38 : w37.cell? ⟨gb123, 0, none⟩ = some (.int .i64 x124000_2) := (blk_cell BK123.out 0).trans rfl
                    have hfs38 := blk_frozen BK123.out 0
                    have hns38_1 := NB125_123.out
                    have hms38_1 := NB123_125.out
                    refine skip_ (w1 := ?_) (by rfl) rfl ?_ ?_
                    rotate_left
                    · go_simp
                      rfl
                    refine hK.out _ _ ?_
                    clear hK K
                    refine done_ (done_of HT_.out (by kernel_rfl)) ?_
                    go_upto_region 20 with (fail)
                    go_cut [83] (fun v83 wc => ∃ (kq : Nat) (x83_31 : Bool), v83 = .bool x83_31 ∧ Aside0 (span_combine.j3 pp kq t120 x10_2 x12_2 x13_2 t120 (t120.length : Int) x48_2 x83_31 (wrap64 (x124000_2 + ((rd_T54 t120 x48_2).f2))) x124001_2 ((rd_T54 t120 x48_2).f0) ((rd_T54 t120 x48_2).f1) ((rd_T54 t120 x48_2).f2) = some r) ∧ Aside0 (kq ≤ k2) ∧ Aside0 (Kd.R k54 54 wc w.heap.size (fun k_ => k_ ≠ gb125) (.slice (some ad124) t120.length co27) t120) ∧ Aside0 (Kd.R k33 33 wc w.heap.size (fun _ => True) u10 x10_2) ∧ Aside0 (Kd.R k54 54 wc w.heap.size (fun k_ => k_ ≠ gb125) (.slice (some ad124) t120.length co27) t120) ∧ Aside0 (wc.heap[gb123]? = some (.cells #[.int .i64 (wrap64 (x124000_2 + ((rd_T54 t120 x48_2).f2))), .int .i64 x124001_2] 48 (0, 0))) ∧ Aside0 (wc.heap[gb125]? = some (.cells #[.int .i64 ((rd_T54 t120 x48_2).f0), .int .i64 ((rd_T54 t120 x48_2).f1), .int .i64 ((rd_T54 t120 x48_2).f2)] 54 (0, 0))) ∧ Aside0 (Below w.heap.size w wc))
                    case first =>
                      have H := HC32.out
                      clear HC32
                      by_cases c39 : (wrap64 (x48_2 + 1)) < (t120.length : Int)
                      · rw [if_pos c39] at H
                        have c39b0 : decide ((wrap64 (x48_2 + 1)) < (t120.length : Int)) = true := decide_eq_true c39
                        clear c39
                        (first | rw [c39b0] | (simp only [i64_w, i32_w]; rw [c39b0]) | rw [c39b1] | skip)
                        obtain ⟨ji40, hji40⟩ : ∃ j_ : Int, (wrap64 (x48_2 + 1)) = j_ := ⟨_, rfl⟩
                        replace H : (if 0 ≤ (ji40) then (if ((rd_T54 t120 (ji40)).f0) = ((rd_T54 t120 x48_2).f0) then (span_combine.j3 pp k2 t120 x10_2 x12_2 x13_2 t120 (t120.length : Int) x48_2 true (wrap64 (x124000_2 + ((rd_T54 t120 x48_2).f2))) x124001_2 ((rd_T54 t120 x48_2).f0) ((rd_T54 t120 x48_2).f1) ((rd_T54 t120 x48_2).f2)) else ((pp (wrap64 (x124000_2 + ((rd_T54 t120 x48_2).f2))) x124001_2).bind fun t127 => (span_combine.j3 pp k2 t120 x10_2 x12_2 x13_2 t120 (t120.length : Int) x48_2 (t127 == x12_2) (wrap64 (x124000_2 + ((rd_T54 t120 x48_2).f2))) x124001_2 ((rd_T54 t120 x48_2).f0) ((rd_T54 t120 x48_2).f1) ((rd_T54 t120 x48_2).f2)))) else (none)) = some r := by first | (rw [hji40] at H; exact H) | (simp only [hji40] at H ⊢; exact H)
                        (try rw [hji40] at c39b0)
                        have hji40w : (IntKind.i64.wrap (x48_2 + 1)) = ji40 := (i64_w _).trans hji40
                        by_cases c41 : 0 ≤ (ji40)
                        · rw [if_pos c41] at H
                          have c41b0 : decide (0 ≤ (ji40)) = true := decide_eq_true c41
                          clear c41
                          by_cases c42 : ((rd_T54 t120 (ji40)).f0) = ((rd_T54 t120 x48_2).f0)
                          · rw [if_pos c42] at H
                            have c42b0 : (((rd_T54 t120 (ji40)).f0) == ((rd_T54 t120 x48_2).f0)) = true := beq_iff_eq.mpr c42
                            have c42b1 : (((rd_T54 t120 (ji40)).f0) != ((rd_T54 t120 x48_2).f0)) = false := bne_eq_false_iff_eq.mpr c42
                            clear c42
                            have H' := Az H
                            clear H
                            try go_wp2
                            have n0_ : Aside0 (Kd.R k54 54 (w37.setCell ⟨gb123, 0, none⟩ (.int .i64 (wrap64 (x124000_2 + ((rd_T54 t120 x48_2).f2))))) w.heap.size (fun k_ => k_ ≠ gb125) (.slice (some ad124) t120.length co27) t120) := ⟨by (with_reducible repeat (first | apply Kd.R_alloc | apply Kd.R_drewN | apply Kd.R_drew)); exact Kd.R_mono (Kd.R_far (p := ⟨gb123, 0, none⟩) (Kd.R_types HO_5.out BK123.out (by decide)) (fun _ hk => hk.2) (.int .i64 (wrap64 (x124000_2 + ((rd_T54 t120 x48_2).f2))))) (fun _ hk => hk.1)⟩
                            have n1_ : Aside0 (Kd.R k33 33 (w37.setCell ⟨gb123, 0, none⟩ (.int .i64 (wrap64 (x124000_2 + ((rd_T54 t120 x48_2).f2))))) w.heap.size (fun _ => True) u10 x10_2) := ⟨by (with_reducible repeat (first | apply Kd.R_alloc | apply Kd.R_drewN | apply Kd.R_drew)); exact Kd.R_mono (Kd.R_far (p := ⟨gb123, 0, none⟩) (Kd.R_types HO_10.out BK123.out (by decide)) (fun _ hk => hk.2) (.int .i64 (wrap64 (x124000_2 + ((rd_T54 t120 x48_2).f2))))) (fun _ hk => trivial)⟩
                            have n2_ : Aside0 (Kd.R k54 54 (w37.setCell ⟨gb123, 0, none⟩ (.int .i64 (wrap64 (x124000_2 + ((rd_T54 t120 x48_2).f2))))) w.heap.size (fun k_ => k_ ≠ gb125) (.slice (some ad124) t120.length co27) t120) := ⟨by (with_reducible repeat (first | apply Kd.R_alloc | apply Kd.R_drewN | apply Kd.R_drew)); exact Kd.R_mono (Kd.R_far (p := ⟨gb123, 0, none⟩) (Kd.R_types HO_46.out BK123.out (by decide)) (fun _ hk => hk.2) (.int .i64 (wrap64 (x124000_2 + ((rd_T54 t120 x48_2).f2))))) (fun _ hk => hk.1)⟩
                            have n3_ : Aside0 ((w37.setCell ⟨gb123, 0, none⟩ (.int .i64 (wrap64 (x124000_2 + ((rd_T54 t120 x48_2).f2))))).heap[gb123]? = some (.cells #[.int .i64 (wrap64 (x124000_2 + ((rd_T54 t120 x48_2).f2))), .int .i64 x124001_2] 48 (0, 0))) := ⟨by (with_reducible repeat (first | refine blk_drewN ?_ _ | refine blk_drew ?_ | refine blk_alloc ?_ _)); refine blk_put (cs := #[.int .i64 x124000_2, .int .i64 x124001_2]) ?_ 0 _ rfl; (with_reducible repeat (first | refine blk_drewN ?_ _ | refine blk_drew ?_ | refine blk_alloc ?_ _)); exact BK123.out⟩
                            have n4_ : Aside0 ((w37.setCell ⟨gb123, 0, none⟩ (.int .i64 (wrap64 (x124000_2 + ((rd_T54 t120 x48_2).f2))))).heap[gb125]? = some (.cells #[.int .i64 ((rd_T54 t120 x48_2).f0), .int .i64 ((rd_T54 t120 x48_2).f1), .int .i64 ((rd_T54 t120 x48_2).f2)] 54 (0, 0))) := ⟨by (with_reducible repeat (first | refine blk_drewN ?_ _ | refine blk_drew ?_ | refine blk_alloc ?_ _)); refine blk_far ?_ NB125_123.out _; (with_reducible repeat (first | refine blk_drewN ?_ _ | refine blk_drew ?_ | refine blk_alloc ?_ _)); exact BK125.out⟩
                            have n5_ : Aside0 (Below w.heap.size w (w37.setCell ⟨gb123, 0, none⟩ (.int .i64 (wrap64 (x124000_2 + ((rd_T54 t120 x48_2).f2)))))) := ⟨by repeat (first | (with_reducible first | exact HB.out | apply bal | apply bdN | apply bd1 | refine below_set ?_ GE123.out | refine below_set ?_ GE125.out) | exact HB.out)⟩
                            (try clear HO_5)
                            (try clear HO_10)
                            (try clear HO_46)
                            (try clear BK123)
                            (try clear BK125)
                            (try clear HB)
                            generalize (w37.setCell ⟨gb123, 0, none⟩ (.int .i64 (wrap64 (x124000_2 + ((rd_T54 t120 x48_2).f2))))) = w43 at n0_ n1_ n2_ n3_ n4_ n5_ ⊢
                            have HO_5 := n0_
                            have HO_10 := n1_
                            have HO_46 := n2_
                            have BK123 := n3_
                            have BK125 := n4_
                            have HB := n5_
                            clear n0_ n1_ n2_ n3_ n4_ n5_
                            have n0_ := Az (Kd.R_drew HO_5.out)
                            have n1_ := Az (Kd.R_drew HO_10.out)
                            have n2_ := Az (Kd.R_drew HO_46.out)
                            have n3_ := Az (blk_drew BK123.out)
                            have n4_ := Az (blk_drew BK125.out)
                            have n5_ := Az (bd1 HB.out)
                            clear HO_5
                            clear HO_10
                            clear HO_46
                            clear BK123
                            clear BK125
                            clear HB
                            have HO_5 := n0_
                            have HO_10 := n1_
                            have HO_46 := n2_
                            have BK123 := n3_
                            have BK125 := n4_
                            have HB := n5_
                            clear n0_ n1_ n2_ n3_ n4_ n5_
                            have p126 : 0 ≤ ((ji40) : Int) := of_decide_eq_true (by first | (with_reducible assumption) | assumption)
                            have q126 : (ji40) < (t120.length : Int) := of_decide_eq_true (by first | (with_reducible assumption) | assumption)
                            obtain ⟨ad126, e126, hx126_0, hx126_1, hx126_2⟩ := at_T54 (Kd.R_reads' HO_5.out).2.2 (ji40) p126 q126
                            obtain rfl : ad124 = ad126 := (by injection e126)
                            replace p126 := eq_true p126
                            replace q126 := eq_true q126
                            refine start_ (n := 23) (S := fun w' => w'.cell? ⟨gb125, 0, none⟩ = some (.int .i64 ((rd_T54 t120 x48_2).f0)) ∧ w'.cell? ⟨gb125, 1, none⟩ = some (.int .i64 ((rd_T54 t120 x48_2).f1)) ∧ w'.cell? ⟨gb125, 2, none⟩ = some (.int .i64 ((rd_T54 t120 x48_2).f2)) ∧ w'.cell? (ad124.add (((ji40)).toNat * 3)) = some (.int .i64 ((rd_T54 t120 (ji40)).f0)) ∧ w'.cell? ⟨(ad124.add (((ji40)).toNat * 3)).block, (ad124.add (((ji40)).toNat * 3)).off + 1, none⟩ = some (.int .i64 ((rd_T54 t120 (ji40)).f1)) ∧ w'.cell? ⟨(ad124.add (((ji40)).toNat * 3)).block, (ad124.add (((ji40)).toNat * 3)).off + 2, none⟩ = some (.int .i64 ((rd_T54 t120 (ji40)).f2))) (ds := []) #[false, false, false, false, false, false, false, false, false, false, false, false, false, false, false, false, false, false, false, false, false, false, false] (by kernel_rfl) rfl rfl ⟨(blk_cell BK125.out 0).trans rfl, (blk_cell BK125.out 1).trans rfl, (blk_cell BK125.out 2).trans rfl, hx126_0, hx126_1, hx126_2⟩ (fun hHeld => ?_); refine with_tabW span_combine.tab20 span_combine.bits20 (fun HT_ HW_ => ?_)
                            generalize w43.drew = w44 at HO_5 HO_10 HO_46 BK123 BK125 HB hx126_0 hx126_1 hx126_2 hHeld ⊢
                            refine pure_ (i := 0) (N := some 61) (v := ?_) (a' := ?_) #[true, false, false, false, false, false, false, false, false, false, false, false, false, false, false, false, false, false, false, false, false, false, false] rfl rfl (any_of HT_.out (by kernel_rfl)) (fun _ _ _ h => h) (Or.inl ⟨by rfl, ?_⟩) ?_ ?_
                            rotate_left
                            · intro w'
                              (try simp only [EQc31.out])
                              go_simp
                              with_reducible rfl
                            rotate_left
                            · simp only [Act.put, lsA, lsZ, lsS, i64_w, i32_w]
                              rfl
                            refine pure_ (i := 1) (N := some 62) (v := ?_) (a' := ?_) #[true, true, false, false, false, false, false, false, false, false, false, false, false, false, false, false, false, false, false, false, false, false, false] rfl rfl (any_of HT_.out (by kernel_rfl)) (fun _ _ _ h => h) (Or.inl ⟨by rfl, ?_⟩) ?_ ?_
                            rotate_left
                            · intro w'
                              (try simp only [EQc31.out])
                              go_simp
                              with_reducible rfl
                            rotate_left
                            · simp only [Act.put, lsA, lsZ, lsS, i64_w, i32_w]
                              rfl
                            refine pure_ (i := 2) (N := some 63) (v := ?_) (a' := ?_) #[true, true, true, false, false, false, false, false, false, false, false, false, false, false, false, false, false, false, false, false, false, false, false] rfl rfl (any_of HT_.out (by kernel_rfl)) (fun _ _ _ h => h) (Or.inl ⟨by rfl, ?_⟩) ?_ ?_
                            rotate_left
                            · intro w'
                              (try simp only [EQc31.out])
                              go_simp
                              with_reducible rfl
                            rotate_left
                            · simp only [Act.put, lsA, lsZ, lsS, i64_w, i32_w]
                              rfl
                            refine pure_ (i := 3) (N := some 64) (v := ?_) (a' := ?_) #[true, true, true, true, false, false, false, false, false, false, false, false, false, false, false, false, false, false, false, false, false, false, false] rfl rfl (any_of HT_.out (by kernel_rfl)) (fun _ _ _ h => h) (Or.inl ⟨by rfl, ?_⟩) ?_ ?_
                            rotate_left
                            · intro w'
                              (try simp only [EQc31.out])
                              go_simp
                              with_reducible rfl
                            rotate_left
                            · simp only [Act.put, lsA, lsZ, lsS, i64_w, i32_w]
                              rfl
                            refine pure_ (i := 4) (N := some 65) (v := ?_) (a' := ?_) #[true, true, true, true, true, false, false, false, false, false, false, false, false, false, false, false, false, false, false, false, false, false, false] rfl rfl (any_of HT_.out (by kernel_rfl)) (fun _ _ _ h => h) (Or.inl ⟨by rfl, ?_⟩) ?_ ?_
                            rotate_left
                            · intro w'
                              (try simp only [EQc31.out])
                              go_simp
                              with_reducible rfl
                            rotate_left
                            · simp only [Act.put, lsA, lsZ, lsS, i64_w, i32_w]
                              rfl
                            refine pure_ (i := 5) (N := some 66) (v := ?_) (a' := ?_) #[true, true, true, true, true, true, false, false, false, false, false, false, false, false, false, false, false, false, false, false, false, false, false] rfl rfl (any_of HT_.out (by kernel_rfl)) (fun _ _ _ h => h) (Or.inl ⟨by rfl, ?_⟩) ?_ ?_
                            rotate_left
                            · intro w'
                              (try simp only [EQc31.out])
                              go_simp
                              with_reducible rfl
                            rotate_left
                            · simp only [Act.put, lsA, lsZ, lsS, i64_w, i32_w]
                              rfl
                            refine pure_ (i := 6) (N := some 67) (v := ?_) (a' := ?_) #[true, true, true, true, true, true, true, false, false, false, false, false, false, false, false, false, false, false, false, false, false, false, false] rfl rfl (any_of HT_.out (by kernel_rfl)) (fun _ _ _ h => h) (Or.inl ⟨by rfl, ?_⟩) ?_ ?_
                            rotate_left
                            · intro w'
                              (try simp only [EQc31.out])
                              go_simp
                              with_reducible rfl
                            rotate_left
                            · simp only [Act.put, lsA, lsZ, lsS, i64_w, i32_w]
                              rfl
                            refine pure_ (i := 7) (N := some 68) (v := ?_) (a' := ?_) #[true, true, true, true, true, true, true, true, false, false, false, false, false, false, false, false, false, false, false, false, false, false, false] rfl rfl (any_of HT_.out (by kernel_rfl)) (fun _ _ _ h => h) (Or.inl ⟨by rfl, ?_⟩) ?_ ?_
                            rotate_left
                            · intro w'
                              (try simp only [EQc31.out])
                              go_simp
                              with_reducible rfl
                            rotate_left
                            · simp only [Act.put, lsA, lsZ, lsS, i64_w, i32_w]
                              rfl
                            refine pure_ (i := 8) (N := some 69) (v := ?_) (a' := ?_) #[true, true, true, true, true, true, true, true, true, false, false, false, false, false, false, false, false, false, false, false, false, false, false] rfl rfl (any_of HT_.out (by kernel_rfl)) (fun _ _ _ h => h) (Or.inl ⟨by rfl, ?_⟩) ?_ ?_
                            rotate_left
                            · intro w'
                              (try simp only [EQc31.out])
                              go_simp
                              with_reducible rfl
                            rotate_left
                            · simp only [Act.put, lsA, lsZ, lsS, i64_w, i32_w]
                              rfl
                            refine pure_ (i := 9) (N := some 70) (v := ?_) (a' := ?_) #[true, true, true, true, true, true, true, true, true, true, false, false, false, false, false, false, false, false, false, false, false, false, false] rfl rfl (any_of HT_.out (by kernel_rfl)) (fun _ _ _ h => h) (Or.inl ⟨by rfl, ?_⟩) ?_ ?_
                            rotate_left
                            · intro w'
                              (try simp only [EQc31.out])
                              go_simp
                              with_reducible rfl
                            rotate_left
                            · simp only [Act.put, lsA, lsZ, lsS, i64_w, i32_w]
                              rfl
                            refine pure_ (i := 10) (N := some 71) (v := ?_) (a' := ?_) #[true, true, true, true, true, true, true, true, true, true, true, false, false, false, false, false, false, false, false, false, false, false, false] rfl rfl (any_of HT_.out (by kernel_rfl)) (fun _ _ _ h => h) (Or.inl ⟨by rfl, ?_⟩) ?_ ?_
                            rotate_left
                            · intro w'
                              (try simp only [EQc31.out])
                              go_simp
                              with_reducible rfl
                            rotate_left
                            · simp only [Act.put, lsA, lsZ, lsS, i64_w, i32_w]
                              rfl
                            refine pure_ (i := 12) (N := some 73) (v := ?_) (a' := ?_) #[true, true, true, true, true, true, true, true, true, true, true, false, true, false, false, false, false, false, false, false, false, false, false] rfl rfl (any_of HT_.out (by kernel_rfl)) (fun _ _ _ h => h) (Or.inl ⟨by rfl, ?_⟩) ?_ ?_
                            rotate_left
                            · intro w'
                              (try simp only [EQc31.out])
                              go_simp
                              with_reducible rfl
                            rotate_left
                            · simp only [Act.put, lsA, lsZ, lsS, i64_w, i32_w]
                              rfl
                            refine take_ (i := 11) (N := some 72) (v := ?_) (a' := ?_) #[true, true, true, true, true, true, true, true, true, true, true, true, true, false, false, false, false, false, false, false, false, false, false] rfl rfl (take_ofW HT_.out HW_.out (by kernel_rfl)) (fun _ _ _ h => h) (Or.inl ⟨by rfl, ?_⟩) hHeld ?_ ?_
                            rotate_left
                            · rintro w' ⟨s0, s1, s2, s3, s4, s5⟩
                              (try simp only [EQc31.out])
                              go_simp
                              with_reducible rfl
                            rotate_left
                            · simp only [Act.put, lsA, lsZ, lsS, i64_w, i32_w]
                              rfl
                            refine take_ (i := 13) (N := some 74) (v := ?_) (a' := ?_) #[true, true, true, true, true, true, true, true, true, true, true, true, true, true, false, false, false, false, false, false, false, false, false] rfl rfl (take_ofW HT_.out HW_.out (by kernel_rfl)) (fun _ _ _ h => h) (Or.inl ⟨by rfl, ?_⟩) hHeld ?_ ?_
                            rotate_left
                            · rintro w' ⟨s0, s1, s2, s3, s4, s5⟩
                              (try simp only [EQc31.out])
                              go_simp
                              with_reducible rfl
                            rotate_left
                            · simp only [Act.put, lsA, lsZ, lsS, i64_w, i32_w]
                              rfl
                            refine pure_ (i := 14) (N := some 75) (v := ?_) (a' := ?_) #[true, true, true, true, true, true, true, true, true, true, true, true, true, true, true, false, false, false, false, false, false, false, false] rfl rfl (any_of HT_.out (by kernel_rfl)) (fun _ _ _ h => h) (Or.inl ⟨by rfl, ?_⟩) ?_ ?_
                            rotate_left
                            · intro w'
                              (try simp only [EQc31.out])
                              go_simp
                              with_reducible rfl
                            rotate_left
                            · simp only [Act.put, lsA, lsZ, lsS, i64_w, i32_w]
                              rfl
                            refine pure_ (i := 15) (N := some 76) (v := ?_) (a' := ?_) #[true, true, true, true, true, true, true, true, true, true, true, true, true, true, true, true, false, false, false, false, false, false, false] rfl rfl (any_of HT_.out (by kernel_rfl)) (fun _ _ _ h => h) (Or.inl ⟨by rfl, ?_⟩) ?_ ?_
                            rotate_left
                            · intro w'
                              (try simp only [EQc31.out])
                              go_simp
                              with_reducible rfl
                            rotate_left
                            · simp only [Act.put, lsA, lsZ, lsS, i64_w, i32_w]
                              rfl
                            refine pure_ (i := 16) (N := some 77) (v := ?_) (a' := ?_) #[true, true, true, true, true, true, true, true, true, true, true, true, true, true, true, true, true, false, false, false, false, false, false] rfl rfl (any_of HT_.out (by kernel_rfl)) (fun _ _ _ h => h) (Or.inl ⟨by rfl, ?_⟩) ?_ ?_
                            rotate_left
                            · intro w'
                              (try simp only [EQc31.out])
                              go_simp
                              with_reducible rfl
                            rotate_left
                            · simp only [Act.put, lsA, lsZ, lsS, i64_w, i32_w]
                              rfl
                            refine pure_ (i := 17) (N := some 78) (v := undef) (a' := ?_) #[true, true, true, true, true, true, true, true, true, true, true, true, true, true, true, true, true, true, false, false, false, false, false] rfl rfl (any_of HT_.out (by kernel_rfl)) (fun _ _ _ h => h) (Or.inr ⟨by rfl, rfl⟩) ?_ ?_
                            rotate_left
                            · simp only [Act.put, lsA, lsZ, lsS, i64_w, i32_w]
                              rfl
                            refine pure_ (i := 18) (N := some 79) (v := undef) (a' := ?_) #[true, true, true, true, true, true, true, true, true, true, true, true, true, true, true, true, true, true, true, false, false, false, false] rfl rfl (any_of HT_.out (by kernel_rfl)) (fun _ _ _ h => h) (Or.inr ⟨by rfl, rfl⟩) ?_ ?_
                            rotate_left
                            · simp only [Act.put, lsA, lsZ, lsS, i64_w, i32_w]
                              rfl
                            refine pure_ (i := 19) (N := some 80) (v := undef) (a' := ?_) #[true, true, true, true, true, true, true, true, true, true, true, true, true, true, true, true, true, true, true, true, false, false, false] rfl rfl (any_of HT_.out (by kernel_rfl)) (fun _ _ _ h => h) (Or.inr ⟨by rfl, rfl⟩) ?_ ?_
                            rotate_left
                            · simp only [Act.put, lsA, lsZ, lsS, i64_w, i32_w]
                              rfl
                            refine pure_ (i := 20) (N := some 81) (v := undef) (a' := ?_) #[true, true, true, true, true, true, true, true, true, true, true, true, true, true, true, true, true, true, true, true, true, false, false] rfl rfl (any_of HT_.out (by kernel_rfl)) (fun _ _ _ h => h) (Or.inr ⟨by rfl, rfl⟩) ?_ ?_
                            rotate_left
                            · simp only [Act.put, lsA, lsZ, lsS, i64_w, i32_w]
                              rfl
                            refine pure_ (i := 21) (N := some 82) (v := undef) (a' := ?_) #[true, true, true, true, true, true, true, true, true, true, true, true, true, true, true, true, true, true, true, true, true, true, false] rfl rfl (any_of HT_.out (by kernel_rfl)) (fun _ _ _ h => h) (Or.inr ⟨by rfl, rfl⟩) ?_ ?_
                            rotate_left
                            · simp only [Act.put, lsA, lsZ, lsS, i64_w, i32_w]
                              rfl
                            refine pure_ (i := 22) (N := some 83) (v := ?_) (a' := ?_) #[true, true, true, true, true, true, true, true, true, true, true, true, true, true, true, true, true, true, true, true, true, true, true] rfl rfl (any_of HT_.out (by kernel_rfl)) (fun _ _ _ h => h) (Or.inl ⟨by rfl, ?_⟩) ?_ ?_
                            rotate_left
                            · intro w'
                              (try simp only [EQc31.out])
                              go_simp
                              with_reducible rfl
                            rotate_left
                            · simp only [Act.put, lsA, lsZ, lsS, i64_w, i32_w]
                              rfl
                            refine done_ (done_of HT_.out (by kernel_rfl)) ?_
                            try go_wp2
                            go_meet
                            case rel => exact ⟨_, (true), (by first | rfl | (simp; done) | (simp [*]; done)), H', ⟨by have := HK1.out; have := HK2.out; first | omega | exact Nat.le_refl _⟩, ⟨by (with_reducible repeat (first | apply Kd.R_alloc | apply Kd.R_drewN | apply Kd.R_drew)); exact HO_5.out⟩, ⟨by (with_reducible repeat (first | apply Kd.R_alloc | apply Kd.R_drewN | apply Kd.R_drew)); exact HO_10.out⟩, ⟨by (with_reducible repeat (first | apply Kd.R_alloc | apply Kd.R_drewN | apply Kd.R_drew)); exact HO_46.out⟩, ⟨by (with_reducible repeat (first | refine blk_drewN ?_ _ | refine blk_drew ?_ | refine blk_alloc ?_ _)); exact BK123.out⟩, ⟨by (with_reducible repeat (first | refine blk_drewN ?_ _ | refine blk_drew ?_ | refine blk_alloc ?_ _)); exact BK125.out⟩, ⟨by repeat (first | (with_reducible first | exact HB.out | apply bal | apply bdN | apply bd1 | refine below_set ?_ GE123.out | refine below_set ?_ GE125.out) | exact HB.out)⟩⟩
                          · rw [if_neg c42] at H
                            have c42b0 : (((rd_T54 t120 (ji40)).f0) == ((rd_T54 t120 x48_2).f0)) = false := beq_eq_false_iff_ne.mpr c42
                            have c42b1 : (((rd_T54 t120 (ji40)).f0) != ((rd_T54 t120 x48_2).f0)) = true := bne_iff_ne.mpr c42
                            replace H := Option.bind_eq_some_iff.mp H
                            obtain ⟨t127, A450, H⟩ := H
                            replace H : (span_combine.j3 pp k2 t120 x10_2 x12_2 x13_2 t120 (t120.length : Int) x48_2 (t127 == x12_2) (wrap64 (x124000_2 + ((rd_T54 t120 x48_2).f2))) x124001_2 ((rd_T54 t120 x48_2).f0) ((rd_T54 t120 x48_2).f1) ((rd_T54 t120 x48_2).f2)) = some r := H
                            have A45 := Az A450
                            clear A450
                            have H' := Az H
                            clear H
                            try go_wp2
                            have n0_ : Aside0 (Kd.R k54 54 (w37.setCell ⟨gb123, 0, none⟩ (.int .i64 (wrap64 (x124000_2 + ((rd_T54 t120 x48_2).f2))))) w.heap.size (fun k_ => k_ ≠ gb125) (.slice (some ad124) t120.length co27) t120) := ⟨by (with_reducible repeat (first | apply Kd.R_alloc | apply Kd.R_drewN | apply Kd.R_drew)); exact Kd.R_mono (Kd.R_far (p := ⟨gb123, 0, none⟩) (Kd.R_types HO_5.out BK123.out (by decide)) (fun _ hk => hk.2) (.int .i64 (wrap64 (x124000_2 + ((rd_T54 t120 x48_2).f2))))) (fun _ hk => hk.1)⟩
                            have n1_ : Aside0 (Kd.R k33 33 (w37.setCell ⟨gb123, 0, none⟩ (.int .i64 (wrap64 (x124000_2 + ((rd_T54 t120 x48_2).f2))))) w.heap.size (fun _ => True) u10 x10_2) := ⟨by (with_reducible repeat (first | apply Kd.R_alloc | apply Kd.R_drewN | apply Kd.R_drew)); exact Kd.R_mono (Kd.R_far (p := ⟨gb123, 0, none⟩) (Kd.R_types HO_10.out BK123.out (by decide)) (fun _ hk => hk.2) (.int .i64 (wrap64 (x124000_2 + ((rd_T54 t120 x48_2).f2))))) (fun _ hk => trivial)⟩
                            have n2_ : Aside0 (Kd.R k54 54 (w37.setCell ⟨gb123, 0, none⟩ (.int .i64 (wrap64 (x124000_2 + ((rd_T54 t120 x48_2).f2))))) w.heap.size (fun k_ => k_ ≠ gb125) (.slice (some ad124) t120.length co27) t120) := ⟨by (with_reducible repeat (first | apply Kd.R_alloc | apply Kd.R_drewN | apply Kd.R_drew)); exact Kd.R_mono (Kd.R_far (p := ⟨gb123, 0, none⟩) (Kd.R_types HO_46.out BK123.out (by decide)) (fun _ hk => hk.2) (.int .i64 (wrap64 (x124000_2 + ((rd_T54 t120 x48_2).f2))))) (fun _ hk => hk.1)⟩
                            have n3_ : Aside0 ((w37.setCell ⟨gb123, 0, none⟩ (.int .i64 (wrap64 (x124000_2 + ((rd_T54 t120 x48_2).f2))))).heap[gb123]? = some (.cells #[.int .i64 (wrap64 (x124000_2 + ((rd_T54 t120 x48_2).f2))), .int .i64 x124001_2] 48 (0, 0))) := ⟨by (with_reducible repeat (first | refine blk_drewN ?_ _ | refine blk_drew ?_ | refine blk_alloc ?_ _)); refine blk_put (cs := #[.int .i64 x124000_2, .int .i64 x124001_2]) ?_ 0 _ rfl; (with_reducible repeat (first | refine blk_drewN ?_ _ | refine blk_drew ?_ | refine blk_alloc ?_ _)); exact BK123.out⟩
                            have n4_ : Aside0 ((w37.setCell ⟨gb123, 0, none⟩ (.int .i64 (wrap64 (x124000_2 + ((rd_T54 t120 x48_2).f2))))).heap[gb125]? = some (.cells #[.int .i64 ((rd_T54 t120 x48_2).f0), .int .i64 ((rd_T54 t120 x48_2).f1), .int .i64 ((rd_T54 t120 x48_2).f2)] 54 (0, 0))) := ⟨by (with_reducible repeat (first | refine blk_drewN ?_ _ | refine blk_drew ?_ | refine blk_alloc ?_ _)); refine blk_far ?_ NB125_123.out _; (with_reducible repeat (first | refine blk_drewN ?_ _ | refine blk_drew ?_ | refine blk_alloc ?_ _)); exact BK125.out⟩
                            have n5_ : Aside0 (Below w.heap.size w (w37.setCell ⟨gb123, 0, none⟩ (.int .i64 (wrap64 (x124000_2 + ((rd_T54 t120 x48_2).f2)))))) := ⟨by repeat (first | (with_reducible first | exact HB.out | apply bal | apply bdN | apply bd1 | refine below_set ?_ GE123.out | refine below_set ?_ GE125.out) | exact HB.out)⟩
                            (try clear HO_5)
                            (try clear HO_10)
                            (try clear HO_46)
                            (try clear BK123)
                            (try clear BK125)
                            (try clear HB)
                            generalize (w37.setCell ⟨gb123, 0, none⟩ (.int .i64 (wrap64 (x124000_2 + ((rd_T54 t120 x48_2).f2))))) = w46 at n0_ n1_ n2_ n3_ n4_ n5_ ⊢
                            have HO_5 := n0_
                            have HO_10 := n1_
                            have HO_46 := n2_
                            have BK123 := n3_
                            have BK125 := n4_
                            have HB := n5_
                            clear n0_ n1_ n2_ n3_ n4_ n5_
                            have n0_ := Az (Kd.R_drew HO_5.out)
                            have n1_ := Az (Kd.R_drew HO_10.out)
                            have n2_ := Az (Kd.R_drew HO_46.out)
                            have n3_ := Az (blk_drew BK123.out)
                            have n4_ := Az (blk_drew BK125.out)
                            have n5_ := Az (bd1 HB.out)
                            clear HO_5
                            clear HO_10
                            clear HO_46
                            clear BK123
                            clear BK125
                            clear HB
                            have HO_5 := n0_
                            have HO_10 := n1_
                            have HO_46 := n2_
                            have BK123 := n3_
                            have BK125 := n4_
                            have HB := n5_
                            clear n0_ n1_ n2_ n3_ n4_ n5_
                            have p126 : 0 ≤ ((ji40) : Int) := of_decide_eq_true (by first | (with_reducible assumption) | assumption)
                            have q126 : (ji40) < (t120.length : Int) := of_decide_eq_true (by first | (with_reducible assumption) | assumption)
                            obtain ⟨ad126, e126, hx126_0, hx126_1, hx126_2⟩ := at_T54 (Kd.R_reads' HO_5.out).2.2 (ji40) p126 q126
                            obtain rfl : ad124 = ad126 := (by injection e126)
                            replace p126 := eq_true p126
                            replace q126 := eq_true q126
                            refine start_ (n := 23) (S := fun w' => w'.cell? ⟨gb125, 0, none⟩ = some (.int .i64 ((rd_T54 t120 x48_2).f0)) ∧ w'.cell? ⟨gb125, 1, none⟩ = some (.int .i64 ((rd_T54 t120 x48_2).f1)) ∧ w'.cell? ⟨gb125, 2, none⟩ = some (.int .i64 ((rd_T54 t120 x48_2).f2)) ∧ w'.cell? ⟨gb123, 0, none⟩ = some (.int .i64 (wrap64 (x124000_2 + ((rd_T54 t120 x48_2).f2)))) ∧ w'.cell? ⟨gb123, 1, none⟩ = some (.int .i64 x124001_2) ∧ w'.cell? (ad124.add (((ji40)).toNat * 3)) = some (.int .i64 ((rd_T54 t120 (ji40)).f0)) ∧ w'.cell? ⟨(ad124.add (((ji40)).toNat * 3)).block, (ad124.add (((ji40)).toNat * 3)).off + 1, none⟩ = some (.int .i64 ((rd_T54 t120 (ji40)).f1)) ∧ w'.cell? ⟨(ad124.add (((ji40)).toNat * 3)).block, (ad124.add (((ji40)).toNat * 3)).off + 2, none⟩ = some (.int .i64 ((rd_T54 t120 (ji40)).f2))) (ds := []) #[false, false, false, false, false, false, false, false, false, false, false, false, false, false, false, false, false, false, false, false, false, false, false] (by kernel_rfl) rfl rfl ⟨(blk_cell BK125.out 0).trans rfl, (blk_cell BK125.out 1).trans rfl, (blk_cell BK125.out 2).trans rfl, (blk_cell BK123.out 0).trans rfl, (blk_cell BK123.out 1).trans rfl, hx126_0, hx126_1, hx126_2⟩ (fun hHeld => ?_); refine with_tabW span_combine.tab20 span_combine.bits20 (fun HT_ HW_ => ?_)
                            generalize w46.drew = w47 at HO_5 HO_10 HO_46 BK123 BK125 HB hx126_0 hx126_1 hx126_2 hHeld ⊢
                            refine pure_ (i := 0) (N := some 61) (v := ?_) (a' := ?_) #[true, false, false, false, false, false, false, false, false, false, false, false, false, false, false, false, false, false, false, false, false, false, false] rfl rfl (any_of HT_.out (by kernel_rfl)) (fun _ _ _ h => h) (Or.inl ⟨by rfl, ?_⟩) ?_ ?_
                            rotate_left
                            · intro w'
                              (try simp only [EQc31.out])
                              go_simp
                              with_reducible rfl
                            rotate_left
                            · simp only [Act.put, lsA, lsZ, lsS, i64_w, i32_w]
                              rfl
                            refine pure_ (i := 1) (N := some 62) (v := ?_) (a' := ?_) #[true, true, false, false, false, false, false, false, false, false, false, false, false, false, false, false, false, false, false, false, false, false, false] rfl rfl (any_of HT_.out (by kernel_rfl)) (fun _ _ _ h => h) (Or.inl ⟨by rfl, ?_⟩) ?_ ?_
                            rotate_left
                            · intro w'
                              (try simp only [EQc31.out])
                              go_simp
                              with_reducible rfl
                            rotate_left
                            · simp only [Act.put, lsA, lsZ, lsS, i64_w, i32_w]
                              rfl
                            refine pure_ (i := 2) (N := some 63) (v := ?_) (a' := ?_) #[true, true, true, false, false, false, false, false, false, false, false, false, false, false, false, false, false, false, false, false, false, false, false] rfl rfl (any_of HT_.out (by kernel_rfl)) (fun _ _ _ h => h) (Or.inl ⟨by rfl, ?_⟩) ?_ ?_
                            rotate_left
                            · intro w'
                              (try simp only [EQc31.out])
                              go_simp
                              with_reducible rfl
                            rotate_left
                            · simp only [Act.put, lsA, lsZ, lsS, i64_w, i32_w]
                              rfl
                            refine pure_ (i := 3) (N := some 64) (v := ?_) (a' := ?_) #[true, true, true, true, false, false, false, false, false, false, false, false, false, false, false, false, false, false, false, false, false, false, false] rfl rfl (any_of HT_.out (by kernel_rfl)) (fun _ _ _ h => h) (Or.inl ⟨by rfl, ?_⟩) ?_ ?_
                            rotate_left
                            · intro w'
                              (try simp only [EQc31.out])
                              go_simp
                              with_reducible rfl
                            rotate_left
                            · simp only [Act.put, lsA, lsZ, lsS, i64_w, i32_w]
                              rfl
                            refine pure_ (i := 4) (N := some 65) (v := ?_) (a' := ?_) #[true, true, true, true, true, false, false, false, false, false, false, false, false, false, false, false, false, false, false, false, false, false, false] rfl rfl (any_of HT_.out (by kernel_rfl)) (fun _ _ _ h => h) (Or.inl ⟨by rfl, ?_⟩) ?_ ?_
                            rotate_left
                            · intro w'
                              (try simp only [EQc31.out])
                              go_simp
                              with_reducible rfl
                            rotate_left
                            · simp only [Act.put, lsA, lsZ, lsS, i64_w, i32_w]
                              rfl
                            refine pure_ (i := 5) (N := some 66) (v := ?_) (a' := ?_) #[true, true, true, true, true, true, false, false, false, false, false, false, false, false, false, false, false, false, false, false, false, false, false] rfl rfl (any_of HT_.out (by kernel_rfl)) (fun _ _ _ h => h) (Or.inl ⟨by rfl, ?_⟩) ?_ ?_
                            rotate_left
                            · intro w'
                              (try simp only [EQc31.out])
                              go_simp
                              with_reducible rfl
                            rotate_left
                            · simp only [Act.put, lsA, lsZ, lsS, i64_w, i32_w]
                              rfl
                            refine pure_ (i := 6) (N := some 67) (v := ?_) (a' := ?_) #[true, true, true, true, true, true, true, false, false, false, false, false, false, false, false, false, false, false, false, false, false, false, false] rfl rfl (any_of HT_.out (by kernel_rfl)) (fun _ _ _ h => h) (Or.inl ⟨by rfl, ?_⟩) ?_ ?_
                            rotate_left
                            · intro w'
                              (try simp only [EQc31.out])
                              go_simp
                              with_reducible rfl
                            rotate_left
                            · simp only [Act.put, lsA, lsZ, lsS, i64_w, i32_w]
                              rfl
                            refine pure_ (i := 7) (N := some 68) (v := ?_) (a' := ?_) #[true, true, true, true, true, true, true, true, false, false, false, false, false, false, false, false, false, false, false, false, false, false, false] rfl rfl (any_of HT_.out (by kernel_rfl)) (fun _ _ _ h => h) (Or.inl ⟨by rfl, ?_⟩) ?_ ?_
                            rotate_left
                            · intro w'
                              (try simp only [EQc31.out])
                              go_simp
                              with_reducible rfl
                            rotate_left
                            · simp only [Act.put, lsA, lsZ, lsS, i64_w, i32_w]
                              rfl
                            refine pure_ (i := 8) (N := some 69) (v := ?_) (a' := ?_) #[true, true, true, true, true, true, true, true, true, false, false, false, false, false, false, false, false, false, false, false, false, false, false] rfl rfl (any_of HT_.out (by kernel_rfl)) (fun _ _ _ h => h) (Or.inl ⟨by rfl, ?_⟩) ?_ ?_
                            rotate_left
                            · intro w'
                              (try simp only [EQc31.out])
                              go_simp
                              with_reducible rfl
                            rotate_left
                            · simp only [Act.put, lsA, lsZ, lsS, i64_w, i32_w]
                              rfl
                            refine pure_ (i := 9) (N := some 70) (v := ?_) (a' := ?_) #[true, true, true, true, true, true, true, true, true, true, false, false, false, false, false, false, false, false, false, false, false, false, false] rfl rfl (any_of HT_.out (by kernel_rfl)) (fun _ _ _ h => h) (Or.inl ⟨by rfl, ?_⟩) ?_ ?_
                            rotate_left
                            · intro w'
                              (try simp only [EQc31.out])
                              go_simp
                              with_reducible rfl
                            rotate_left
                            · simp only [Act.put, lsA, lsZ, lsS, i64_w, i32_w]
                              rfl
                            refine pure_ (i := 10) (N := some 71) (v := ?_) (a' := ?_) #[true, true, true, true, true, true, true, true, true, true, true, false, false, false, false, false, false, false, false, false, false, false, false] rfl rfl (any_of HT_.out (by kernel_rfl)) (fun _ _ _ h => h) (Or.inl ⟨by rfl, ?_⟩) ?_ ?_
                            rotate_left
                            · intro w'
                              (try simp only [EQc31.out])
                              go_simp
                              with_reducible rfl
                            rotate_left
                            · simp only [Act.put, lsA, lsZ, lsS, i64_w, i32_w]
                              rfl
                            refine pure_ (i := 12) (N := some 73) (v := ?_) (a' := ?_) #[true, true, true, true, true, true, true, true, true, true, true, false, true, false, false, false, false, false, false, false, false, false, false] rfl rfl (any_of HT_.out (by kernel_rfl)) (fun _ _ _ h => h) (Or.inl ⟨by rfl, ?_⟩) ?_ ?_
                            rotate_left
                            · intro w'
                              (try simp only [EQc31.out])
                              go_simp
                              with_reducible rfl
                            rotate_left
                            · simp only [Act.put, lsA, lsZ, lsS, i64_w, i32_w]
                              rfl
                            refine take_ (i := 11) (N := some 72) (v := ?_) (a' := ?_) #[true, true, true, true, true, true, true, true, true, true, true, true, true, false, false, false, false, false, false, false, false, false, false] rfl rfl (take_ofW HT_.out HW_.out (by kernel_rfl)) (fun _ _ _ h => h) (Or.inl ⟨by rfl, ?_⟩) hHeld ?_ ?_
                            rotate_left
                            · rintro w' ⟨s0, s1, s2, s3, s4, s5, s6, s7⟩
                              (try simp only [EQc31.out])
                              go_simp
                              with_reducible rfl
                            rotate_left
                            · simp only [Act.put, lsA, lsZ, lsS, i64_w, i32_w]
                              rfl
                            refine take_ (i := 13) (N := some 74) (v := ?_) (a' := ?_) #[true, true, true, true, true, true, true, true, true, true, true, true, true, true, false, false, false, false, false, false, false, false, false] rfl rfl (take_ofW HT_.out HW_.out (by kernel_rfl)) (fun _ _ _ h => h) (Or.inl ⟨by rfl, ?_⟩) hHeld ?_ ?_
                            rotate_left
                            · rintro w' ⟨s0, s1, s2, s3, s4, s5, s6, s7⟩
                              (try simp only [EQc31.out])
                              go_simp
                              with_reducible rfl
                            rotate_left
                            · simp only [Act.put, lsA, lsZ, lsS, i64_w, i32_w]
                              rfl
                            refine pure_ (i := 14) (N := some 75) (v := ?_) (a' := ?_) #[true, true, true, true, true, true, true, true, true, true, true, true, true, true, true, false, false, false, false, false, false, false, false] rfl rfl (any_of HT_.out (by kernel_rfl)) (fun _ _ _ h => h) (Or.inl ⟨by rfl, ?_⟩) ?_ ?_
                            rotate_left
                            · intro w'
                              (try simp only [EQc31.out])
                              go_simp
                              with_reducible rfl
                            rotate_left
                            · simp only [Act.put, lsA, lsZ, lsS, i64_w, i32_w]
                              rfl
                            refine pure_ (i := 15) (N := some 76) (v := ?_) (a' := ?_) #[true, true, true, true, true, true, true, true, true, true, true, true, true, true, true, true, false, false, false, false, false, false, false] rfl rfl (any_of HT_.out (by kernel_rfl)) (fun _ _ _ h => h) (Or.inl ⟨by rfl, ?_⟩) ?_ ?_
                            rotate_left
                            · intro w'
                              (try simp only [EQc31.out])
                              go_simp
                              with_reducible rfl
                            rotate_left
                            · simp only [Act.put, lsA, lsZ, lsS, i64_w, i32_w]
                              rfl
                            refine pure_ (i := 16) (N := some 77) (v := ?_) (a' := ?_) #[true, true, true, true, true, true, true, true, true, true, true, true, true, true, true, true, true, false, false, false, false, false, false] rfl rfl (any_of HT_.out (by kernel_rfl)) (fun _ _ _ h => h) (Or.inl ⟨by rfl, ?_⟩) ?_ ?_
                            rotate_left
                            · intro w'
                              (try simp only [EQc31.out])
                              go_simp
                              with_reducible rfl
                            rotate_left
                            · simp only [Act.put, lsA, lsZ, lsS, i64_w, i32_w]
                              rfl
                            refine pure_ (i := 17) (N := some 78) (v := ?_) (a' := ?_) #[true, true, true, true, true, true, true, true, true, true, true, true, true, true, true, true, true, true, false, false, false, false, false] rfl rfl (any_of HT_.out (by kernel_rfl)) (fun _ _ _ h => h) (Or.inl ⟨by rfl, ?_⟩) ?_ ?_
                            rotate_left
                            · intro w'
                              (try simp only [EQc31.out])
                              go_simp
                              with_reducible rfl
                            rotate_left
                            · simp only [Act.put, lsA, lsZ, lsS, i64_w, i32_w]
                              rfl
                            refine pure_ (i := 20) (N := some 81) (v := ?_) (a' := ?_) #[true, true, true, true, true, true, true, true, true, true, true, true, true, true, true, true, true, true, false, false, true, false, false] rfl rfl (any_of HT_.out (by kernel_rfl)) (fun _ _ _ h => h) (Or.inl ⟨by rfl, ?_⟩) ?_ ?_
                            rotate_left
                            · intro w'
                              (try simp only [EQc31.out])
                              go_simp
                              with_reducible rfl
                            rotate_left
                            · simp only [Act.put, lsA, lsZ, lsS, i64_w, i32_w]
                              rfl
                            refine take_ (i := 18) (N := some 79) (v := ?_) (a' := ?_) #[true, true, true, true, true, true, true, true, true, true, true, true, true, true, true, true, true, true, true, false, true, false, false] rfl rfl (take_ofW HT_.out HW_.out (by kernel_rfl)) (fun _ _ _ h => h) (Or.inl ⟨by rfl, ?_⟩) hHeld ?_ ?_
                            rotate_left
                            · rintro w' ⟨s0, s1, s2, s3, s4, s5, s6, s7⟩
                              (try simp only [EQc31.out])
                              go_simp
                              with_reducible rfl
                            rotate_left
                            · simp only [Act.put, lsA, lsZ, lsS, i64_w, i32_w]
                              rfl
                            refine one_ (i := 19) (N := some 80) #[true, true, true, true, true, true, true, true, true, true, true, true, true, true, true, true, true, true, true, true, true, false, false] rfl rfl (one_of HT_.out (by kernel_rfl)) (by decide) (fun K hK => ?_)
                            refine goesT_ 78 hcl.hf hcl.hname hcl.hb #[.agg #[.int .i64 (wrap64 (x124000_2 + ((rd_T54 t120 x48_2).f2))), .int .i64 x124001_2]] (by rfl) rfl rfl rfl (by (try simp only [List.map_toArray, List.map_cons, List.map_nil]); first | done | rfl) ?_
                            with_reducible refine (hcl.hc (wrap64 (x124000_2 + ((rd_T54 t120 x48_2).f2))) x124001_2 t127 _ A45.out).mono ?_
                            rintro e w48 ⟨rfl, hb⟩
                            have HS5_ := (hb.cell (World.block_lt_of_cell? _ _ (hHeld.2.2.2.2.2.1))).trans (hHeld.2.2.2.2.2.1)
                            have HS6_ := (hb.cell (World.block_lt_of_cell? _ _ (hHeld.2.2.2.2.2.2.1))).trans (hHeld.2.2.2.2.2.2.1)
                            have HS7_ := (hb.cell (World.block_lt_of_cell? _ _ (hHeld.2.2.2.2.2.2.2))).trans (hHeld.2.2.2.2.2.2.2)
                            refine ⟨_, rfl, ?_⟩
                            have n0_ := Az (Kd.R_below (by (with_reducible repeat (first | apply Kd.R_alloc | apply Kd.R_drewN | apply Kd.R_drew)); exact HO_5.out) hb)
                            have n1_ := Az (Kd.R_below (by (with_reducible repeat (first | apply Kd.R_alloc | apply Kd.R_drewN | apply Kd.R_drew)); exact HO_10.out) hb)
                            have n2_ := Az (Kd.R_below (by (with_reducible repeat (first | apply Kd.R_alloc | apply Kd.R_drewN | apply Kd.R_drew)); exact HO_46.out) hb)
                            have n3_ := Az (blk_below (g := gb123) (o := .cells #[.int .i64 (wrap64 (x124000_2 + ((rd_T54 t120 x48_2).f2))), .int .i64 x124001_2] 48 (0, 0)) (by (with_reducible repeat (first | refine blk_drewN ?_ _ | refine blk_drew ?_ | refine blk_alloc ?_ _)); exact BK123.out) hb)
                            have n4_ := Az (blk_below (g := gb125) (o := .cells #[.int .i64 ((rd_T54 t120 x48_2).f0), .int .i64 ((rd_T54 t120 x48_2).f1), .int .i64 ((rd_T54 t120 x48_2).f2)] 54 (0, 0)) (by (with_reducible repeat (first | refine blk_drewN ?_ _ | refine blk_drew ?_ | refine blk_alloc ?_ _)); exact BK125.out) hb)
                            have n5_ := Az (below_step (by repeat (first | (with_reducible first | exact HB.out | apply bal | apply bdN | apply bd1 | refine below_set ?_ GE123.out | refine below_set ?_ GE125.out) | exact HB.out)) hb)
                            clear HO_5
                            clear HO_10
                            clear HO_46
                            clear BK123
                            clear BK125
                            clear HB
                            have HO_5 := n0_
                            have HO_10 := n1_
                            have HO_46 := n2_
                            have BK123 := n3_
                            have BK125 := n4_
                            have HB := n5_
                            clear n0_ n1_ n2_ n3_ n4_ n5_
                            (try clear hb)
                            (try clear hb2)
                            (try clear hk)
                            (try clear hi)
                            refine hK.out _ _ ⟨(blk_cell BK125.out 0).trans rfl, (blk_cell BK125.out 1).trans rfl, (blk_cell BK125.out 2).trans rfl, (blk_cell BK123.out 0).trans rfl, (blk_cell BK123.out 1).trans rfl, HS5_, HS6_, HS7_⟩ (fun hHeld => ?_)
                            clear hK K
                            refine norm_ (a' := ?_) ?_ ?_
                            rotate_left
                            · show Act.put _ (some 80) _ = _
                              simp only [Act.put, lsA, lsZ, lsS, i64_w, i32_w]
                              rfl
                            refine pure_ (i := 21) (N := some 82) (v := ?_) (a' := ?_) #[true, true, true, true, true, true, true, true, true, true, true, true, true, true, true, true, true, true, true, true, true, true, false] rfl rfl (any_of HT_.out (by kernel_rfl)) (fun _ _ _ h => h) (Or.inl ⟨by rfl, ?_⟩) ?_ ?_
                            rotate_left
                            · intro w'
                              (try simp only [EQc31.out])
                              go_simp
                              with_reducible rfl
                            rotate_left
                            · simp only [Act.put, lsA, lsZ, lsS, i64_w, i32_w]
                              rfl
                            refine pure_ (i := 22) (N := some 83) (v := ?_) (a' := ?_) #[true, true, true, true, true, true, true, true, true, true, true, true, true, true, true, true, true, true, true, true, true, true, true] rfl rfl (any_of HT_.out (by kernel_rfl)) (fun _ _ _ h => h) (Or.inl ⟨by rfl, ?_⟩) ?_ ?_
                            rotate_left
                            · intro w'
                              (try simp only [EQc31.out])
                              go_simp
                              with_reducible rfl
                            rotate_left
                            · simp only [Act.put, lsA, lsZ, lsS, i64_w, i32_w]
                              rfl
                            refine done_ (done_of HT_.out (by kernel_rfl)) ?_
                            try go_wp2
                            go_meet
                            case rel => exact ⟨_, ((t127 == x12_2)), (by first | rfl | (simp; done) | (simp [*]; done)), H', ⟨by have := HK1.out; have := HK2.out; first | omega | exact Nat.le_refl _⟩, ⟨by (with_reducible repeat (first | apply Kd.R_alloc | apply Kd.R_drewN | apply Kd.R_drew)); exact HO_5.out⟩, ⟨by (with_reducible repeat (first | apply Kd.R_alloc | apply Kd.R_drewN | apply Kd.R_drew)); exact HO_10.out⟩, ⟨by (with_reducible repeat (first | apply Kd.R_alloc | apply Kd.R_drewN | apply Kd.R_drew)); exact HO_46.out⟩, ⟨by (with_reducible repeat (first | refine blk_drewN ?_ _ | refine blk_drew ?_ | refine blk_alloc ?_ _)); exact BK123.out⟩, ⟨by (with_reducible repeat (first | refine blk_drewN ?_ _ | refine blk_drew ?_ | refine blk_alloc ?_ _)); exact BK125.out⟩, ⟨by repeat (first | (with_reducible first | exact HB.out | apply bal | apply bdN | apply bd1 | refine below_set ?_ GE123.out | refine below_set ?_ GE125.out) | exact HB.out)⟩⟩
                        · rw [if_neg c41] at H
                          exact absurd H (by simp)
                      · rw [if_neg c39] at H
                        have c39b0 : decide ((wrap64 (x48_2 + 1)) < (t120.length : Int)) = false := decide_eq_false c39
                        clear c39
                        (first | rw [c39b0] | (simp only [i64_w, i32_w]; rw [c39b0]) | rw [c39b1] | skip)
                        replace H := Option.bind_eq_some_iff.mp H
                        obtain ⟨t128, A490, H⟩ := H
                        replace H : (span_combine.j3 pp k2 t120 x10_2 x12_2 x13_2 t120 (t120.length : Int) x48_2 (t128 == x12_2) (wrap64 (x124000_2 + ((rd_T54 t120 x48_2).f2))) x124001_2 ((rd_T54 t120 x48_2).f0) ((rd_T54 t120 x48_2).f1) ((rd_T54 t120 x48_2).f2)) = some r := H
                        have A49 := Az A490
                        clear A490
                        have H' := Az H
                        clear H
                        try go_wp2
                        have n0_ : Aside0 (Kd.R k54 54 (w37.setCell ⟨gb123, 0, none⟩ (.int .i64 (wrap64 (x124000_2 + ((rd_T54 t120 x48_2).f2))))) w.heap.size (fun k_ => k_ ≠ gb125) (.slice (some ad124) t120.length co27) t120) := ⟨by (with_reducible repeat (first | apply Kd.R_alloc | apply Kd.R_drewN | apply Kd.R_drew)); exact Kd.R_mono (Kd.R_far (p := ⟨gb123, 0, none⟩) (Kd.R_types HO_5.out BK123.out (by decide)) (fun _ hk => hk.2) (.int .i64 (wrap64 (x124000_2 + ((rd_T54 t120 x48_2).f2))))) (fun _ hk => hk.1)⟩
                        have n1_ : Aside0 (Kd.R k33 33 (w37.setCell ⟨gb123, 0, none⟩ (.int .i64 (wrap64 (x124000_2 + ((rd_T54 t120 x48_2).f2))))) w.heap.size (fun _ => True) u10 x10_2) := ⟨by (with_reducible repeat (first | apply Kd.R_alloc | apply Kd.R_drewN | apply Kd.R_drew)); exact Kd.R_mono (Kd.R_far (p := ⟨gb123, 0, none⟩) (Kd.R_types HO_10.out BK123.out (by decide)) (fun _ hk => hk.2) (.int .i64 (wrap64 (x124000_2 + ((rd_T54 t120 x48_2).f2))))) (fun _ hk => trivial)⟩
                        have n2_ : Aside0 (Kd.R k54 54 (w37.setCell ⟨gb123, 0, none⟩ (.int .i64 (wrap64 (x124000_2 + ((rd_T54 t120 x48_2).f2))))) w.heap.size (fun k_ => k_ ≠ gb125) (.slice (some ad124) t120.length co27) t120) := ⟨by (with_reducible repeat (first | apply Kd.R_alloc | apply Kd.R_drewN | apply Kd.R_drew)); exact Kd.R_mono (Kd.R_far (p := ⟨gb123, 0, none⟩) (Kd.R_types HO_46.out BK123.out (by decide)) (fun _ hk => hk.2) (.int .i64 (wrap64 (x124000_2 + ((rd_T54 t120 x48_2).f2))))) (fun _ hk => hk.1)⟩
                        have n3_ : Aside0 ((w37.setCell ⟨gb123, 0, none⟩ (.int .i64 (wrap64 (x124000_2 + ((rd_T54 t120 x48_2).f2))))).heap[gb123]? = some (.cells #[.int .i64 (wrap64 (x124000_2 + ((rd_T54 t120 x48_2).f2))), .int .i64 x124001_2] 48 (0, 0))) := ⟨by (with_reducible repeat (first | refine blk_drewN ?_ _ | refine blk_drew ?_ | refine blk_alloc ?_ _)); refine blk_put (cs := #[.int .i64 x124000_2, .int .i64 x124001_2]) ?_ 0 _ rfl; (with_reducible repeat (first | refine blk_drewN ?_ _ | refine blk_drew ?_ | refine blk_alloc ?_ _)); exact BK123.out⟩
                        have n4_ : Aside0 ((w37.setCell ⟨gb123, 0, none⟩ (.int .i64 (wrap64 (x124000_2 + ((rd_T54 t120 x48_2).f2))))).heap[gb125]? = some (.cells #[.int .i64 ((rd_T54 t120 x48_2).f0), .int .i64 ((rd_T54 t120 x48_2).f1), .int .i64 ((rd_T54 t120 x48_2).f2)] 54 (0, 0))) := ⟨by (with_reducible repeat (first | refine blk_drewN ?_ _ | refine blk_drew ?_ | refine blk_alloc ?_ _)); refine blk_far ?_ NB125_123.out _; (with_reducible repeat (first | refine blk_drewN ?_ _ | refine blk_drew ?_ | refine blk_alloc ?_ _)); exact BK125.out⟩
                        have n5_ : Aside0 (Below w.heap.size w (w37.setCell ⟨gb123, 0, none⟩ (.int .i64 (wrap64 (x124000_2 + ((rd_T54 t120 x48_2).f2)))))) := ⟨by repeat (first | (with_reducible first | exact HB.out | apply bal | apply bdN | apply bd1 | refine below_set ?_ GE123.out | refine below_set ?_ GE125.out) | exact HB.out)⟩
                        (try clear HO_5)
                        (try clear HO_10)
                        (try clear HO_46)
                        (try clear BK123)
                        (try clear BK125)
                        (try clear HB)
                        generalize (w37.setCell ⟨gb123, 0, none⟩ (.int .i64 (wrap64 (x124000_2 + ((rd_T54 t120 x48_2).f2))))) = w50 at n0_ n1_ n2_ n3_ n4_ n5_ ⊢
                        have HO_5 := n0_
                        have HO_10 := n1_
                        have HO_46 := n2_
                        have BK123 := n3_
                        have BK125 := n4_
                        have HB := n5_
                        clear n0_ n1_ n2_ n3_ n4_ n5_
                        have n0_ := Az (Kd.R_drew HO_5.out)
                        have n1_ := Az (Kd.R_drew HO_10.out)
                        have n2_ := Az (Kd.R_drew HO_46.out)
                        have n3_ := Az (blk_drew BK123.out)
                        have n4_ := Az (blk_drew BK125.out)
                        have n5_ := Az (bd1 HB.out)
                        clear HO_5
                        clear HO_10
                        clear HO_46
                        clear BK123
                        clear BK125
                        clear HB
                        have HO_5 := n0_
                        have HO_10 := n1_
                        have HO_46 := n2_
                        have BK123 := n3_
                        have BK125 := n4_
                        have HB := n5_
                        clear n0_ n1_ n2_ n3_ n4_ n5_
                        refine start_ (n := 23) (S := fun w' => w'.cell? ⟨gb123, 0, none⟩ = some (.int .i64 (wrap64 (x124000_2 + ((rd_T54 t120 x48_2).f2)))) ∧ w'.cell? ⟨gb123, 1, none⟩ = some (.int .i64 x124001_2)) (ds := []) #[false, false, false, false, false, false, false, false, false, false, false, false, false, false, false, false, false, false, false, false, false, false, false] (by kernel_rfl) rfl rfl ⟨(blk_cell BK123.out 0).trans rfl, (blk_cell BK123.out 1).trans rfl⟩ (fun hHeld => ?_); refine with_tabW span_combine.tab20 span_combine.bits20 (fun HT_ HW_ => ?_)
                        generalize w50.drew = w51 at HO_5 HO_10 HO_46 BK123 BK125 HB hHeld ⊢
                        refine pure_ (i := 0) (N := some 61) (v := ?_) (a' := ?_) #[true, false, false, false, false, false, false, false, false, false, false, false, false, false, false, false, false, false, false, false, false, false, false] rfl rfl (any_of HT_.out (by kernel_rfl)) (fun _ _ _ h => h) (Or.inl ⟨by rfl, ?_⟩) ?_ ?_
                        rotate_left
                        · intro w'
                          (try simp only [EQc31.out])
                          go_simp
                          with_reducible rfl
                        rotate_left
                        · simp only [Act.put, lsA, lsZ, lsS, i64_w, i32_w]
                          rfl
                        refine pure_ (i := 1) (N := some 62) (v := ?_) (a' := ?_) #[true, true, false, false, false, false, false, false, false, false, false, false, false, false, false, false, false, false, false, false, false, false, false] rfl rfl (any_of HT_.out (by kernel_rfl)) (fun _ _ _ h => h) (Or.inl ⟨by rfl, ?_⟩) ?_ ?_
                        rotate_left
                        · intro w'
                          (try simp only [EQc31.out])
                          go_simp
                          with_reducible rfl
                        rotate_left
                        · simp only [Act.put, lsA, lsZ, lsS, i64_w, i32_w]
                          rfl
                        refine pure_ (i := 2) (N := some 63) (v := ?_) (a' := ?_) #[true, true, true, false, false, false, false, false, false, false, false, false, false, false, false, false, false, false, false, false, false, false, false] rfl rfl (any_of HT_.out (by kernel_rfl)) (fun _ _ _ h => h) (Or.inl ⟨by rfl, ?_⟩) ?_ ?_
                        rotate_left
                        · intro w'
                          (try simp only [EQc31.out])
                          go_simp
                          with_reducible rfl
                        rotate_left
                        · simp only [Act.put, lsA, lsZ, lsS, i64_w, i32_w]
                          rfl
                        refine pure_ (i := 3) (N := some 64) (v := ?_) (a' := ?_) #[true, true, true, true, false, false, false, false, false, false, false, false, false, false, false, false, false, false, false, false, false, false, false] rfl rfl (any_of HT_.out (by kernel_rfl)) (fun _ _ _ h => h) (Or.inl ⟨by rfl, ?_⟩) ?_ ?_
                        rotate_left
                        · intro w'
                          (try simp only [EQc31.out])
                          go_simp
                          with_reducible rfl
                        rotate_left
                        · simp only [Act.put, lsA, lsZ, lsS, i64_w, i32_w]
                          rfl
                        refine pure_ (i := 4) (N := some 65) (v := ?_) (a' := ?_) #[true, true, true, true, true, false, false, false, false, false, false, false, false, false, false, false, false, false, false, false, false, false, false] rfl rfl (any_of HT_.out (by kernel_rfl)) (fun _ _ _ h => h) (Or.inl ⟨by rfl, ?_⟩) ?_ ?_
                        rotate_left
                        · intro w'
                          (try simp only [EQc31.out])
                          go_simp
                          with_reducible rfl
                        rotate_left
                        · simp only [Act.put, lsA, lsZ, lsS, i64_w, i32_w]
                          rfl
                        refine pure_ (i := 5) (N := some 66) (v := ?_) (a' := ?_) #[true, true, true, true, true, true, false, false, false, false, false, false, false, false, false, false, false, false, false, false, false, false, false] rfl rfl (any_of HT_.out (by kernel_rfl)) (fun _ _ _ h => h) (Or.inl ⟨by rfl, ?_⟩) ?_ ?_
                        rotate_left
                        · intro w'
                          (try simp only [EQc31.out])
                          go_simp
                          with_reducible rfl
                        rotate_left
                        · simp only [Act.put, lsA, lsZ, lsS, i64_w, i32_w]
                          rfl
                        refine pure_ (i := 6) (N := some 67) (v := undef) (a' := ?_) #[true, true, true, true, true, true, true, false, false, false, false, false, false, false, false, false, false, false, false, false, false, false, false] rfl rfl (any_of HT_.out (by kernel_rfl)) (fun _ _ _ h => h) (Or.inr ⟨by rfl, rfl⟩) ?_ ?_
                        rotate_left
                        · simp only [Act.put, lsA, lsZ, lsS, i64_w, i32_w]
                          rfl
                        refine pure_ (i := 7) (N := some 68) (v := undef) (a' := ?_) #[true, true, true, true, true, true, true, true, false, false, false, false, false, false, false, false, false, false, false, false, false, false, false] rfl rfl (any_of HT_.out (by kernel_rfl)) (fun _ _ _ h => h) (Or.inr ⟨by rfl, rfl⟩) ?_ ?_
                        rotate_left
                        · simp only [Act.put, lsA, lsZ, lsS, i64_w, i32_w]
                          rfl
                        refine pure_ (i := 8) (N := some 69) (v := undef) (a' := ?_) #[true, true, true, true, true, true, true, true, true, false, false, false, false, false, false, false, false, false, false, false, false, false, false] rfl rfl (any_of HT_.out (by kernel_rfl)) (fun _ _ _ h => h) (Or.inr ⟨by rfl, rfl⟩) ?_ ?_
                        rotate_left
                        · simp only [Act.put, lsA, lsZ, lsS, i64_w, i32_w]
                          rfl
                        refine pure_ (i := 9) (N := some 70) (v := undef) (a' := ?_) #[true, true, true, true, true, true, true, true, true, true, false, false, false, false, false, false, false, false, false, false, false, false, false] rfl rfl (any_of HT_.out (by kernel_rfl)) (fun _ _ _ h => h) (Or.inr ⟨by rfl, rfl⟩) ?_ ?_
                        rotate_left
                        · simp only [Act.put, lsA, lsZ, lsS, i64_w, i32_w]
                          rfl
                        refine pure_ (i := 10) (N := some 71) (v := undef) (a' := ?_) #[true, true, true, true, true, true, true, true, true, true, true, false, false, false, false, false, false, false, false, false, false, false, false] rfl rfl (any_of HT_.out (by kernel_rfl)) (fun _ _ _ h => h) (Or.inr ⟨by rfl, rfl⟩) ?_ ?_
                        rotate_left
                        · simp only [Act.put, lsA, lsZ, lsS, i64_w, i32_w]
                          rfl
                        refine pure_ (i := 11) (N := some 72) (v := undef) (a' := ?_) #[true, true, true, true, true, true, true, true, true, true, true, true, false, false, false, false, false, false, false, false, false, false, false] rfl rfl (any_of HT_.out (by kernel_rfl)) (fun _ _ _ h => h) (Or.inr ⟨by rfl, rfl⟩) ?_ ?_
                        rotate_left
                        · simp only [Act.put, lsA, lsZ, lsS, i64_w, i32_w]
                          rfl
                        refine pure_ (i := 12) (N := some 73) (v := undef) (a' := ?_) #[true, true, true, true, true, true, true, true, true, true, true, true, true, false, false, false, false, false, false, false, false, false, false] rfl rfl (any_of HT_.out (by kernel_rfl)) (fun _ _ _ h => h) (Or.inr ⟨by rfl, rfl⟩) ?_ ?_
                        rotate_left
                        · simp only [Act.put, lsA, lsZ, lsS, i64_w, i32_w]
                          rfl
                        refine pure_ (i := 13) (N := some 74) (v := undef) (a' := ?_) #[true, true, true, true, true, true, true, true, true, true, true, true, true, true, false, false, false, false, false, false, false, false, false] rfl rfl (any_of HT_.out (by kernel_rfl)) (fun _ _ _ h => h) (Or.inr ⟨by rfl, rfl⟩) ?_ ?_
                        rotate_left
                        · simp only [Act.put, lsA, lsZ, lsS, i64_w, i32_w]
                          rfl
                        refine pure_ (i := 14) (N := some 75) (v := undef) (a' := ?_) #[true, true, true, true, true, true, true, true, true, true, true, true, true, true, true, false, false, false, false, false, false, false, false] rfl rfl (any_of HT_.out (by kernel_rfl)) (fun _ _ _ h => h) (Or.inr ⟨by rfl, rfl⟩) ?_ ?_
                        rotate_left
                        · simp only [Act.put, lsA, lsZ, lsS, i64_w, i32_w]
                          rfl
                        refine pure_ (i := 15) (N := some 76) (v := ?_) (a' := ?_) #[true, true, true, true, true, true, true, true, true, true, true, true, true, true, true, true, false, false, false, false, false, false, false] rfl rfl (any_of HT_.out (by kernel_rfl)) (fun _ _ _ h => h) (Or.inl ⟨by rfl, ?_⟩) ?_ ?_
                        rotate_left
                        · intro w'
                          (try simp only [EQc31.out])
                          go_simp
                          with_reducible rfl
                        rotate_left
                        · simp only [Act.put, lsA, lsZ, lsS, i64_w, i32_w]
                          rfl
                        refine pure_ (i := 16) (N := some 77) (v := ?_) (a' := ?_) #[true, true, true, true, true, true, true, true, true, true, true, true, true, true, true, true, true, false, false, false, false, false, false] rfl rfl (any_of HT_.out (by kernel_rfl)) (fun _ _ _ h => h) (Or.inl ⟨by rfl, ?_⟩) ?_ ?_
                        rotate_left
                        · intro w'
                          (try simp only [EQc31.out])
                          go_simp
                          with_reducible rfl
                        rotate_left
                        · simp only [Act.put, lsA, lsZ, lsS, i64_w, i32_w]
                          rfl
                        refine pure_ (i := 17) (N := some 78) (v := ?_) (a' := ?_) #[true, true, true, true, true, true, true, true, true, true, true, true, true, true, true, true, true, true, false, false, false, false, false] rfl rfl (any_of HT_.out (by kernel_rfl)) (fun _ _ _ h => h) (Or.inl ⟨by rfl, ?_⟩) ?_ ?_
                        rotate_left
                        · intro w'
                          (try simp only [EQc31.out])
                          go_simp
                          with_reducible rfl
                        rotate_left
                        · simp only [Act.put, lsA, lsZ, lsS, i64_w, i32_w]
                          rfl
                        refine pure_ (i := 20) (N := some 81) (v := ?_) (a' := ?_) #[true, true, true, true, true, true, true, true, true, true, true, true, true, true, true, true, true, true, false, false, true, false, false] rfl rfl (any_of HT_.out (by kernel_rfl)) (fun _ _ _ h => h) (Or.inl ⟨by rfl, ?_⟩) ?_ ?_
                        rotate_left
                        · intro w'
                          (try simp only [EQc31.out])
                          go_simp
                          with_reducible rfl
                        rotate_left
                        · simp only [Act.put, lsA, lsZ, lsS, i64_w, i32_w]
                          rfl
                        refine take_ (i := 18) (N := some 79) (v := ?_) (a' := ?_) #[true, true, true, true, true, true, true, true, true, true, true, true, true, true, true, true, true, true, true, false, true, false, false] rfl rfl (take_ofW HT_.out HW_.out (by kernel_rfl)) (fun _ _ _ h => h) (Or.inl ⟨by rfl, ?_⟩) hHeld ?_ ?_
                        rotate_left
                        · rintro w' ⟨s0, s1⟩
                          (try simp only [EQc31.out])
                          go_simp
                          with_reducible rfl
                        rotate_left
                        · simp only [Act.put, lsA, lsZ, lsS, i64_w, i32_w]
                          rfl
                        refine one_ (i := 19) (N := some 80) #[true, true, true, true, true, true, true, true, true, true, true, true, true, true, true, true, true, true, true, true, true, false, false] rfl rfl (one_of HT_.out (by kernel_rfl)) (by decide) (fun K hK => ?_)
                        refine goesT_ 78 hcl.hf hcl.hname hcl.hb #[.agg #[.int .i64 (wrap64 (x124000_2 + ((rd_T54 t120 x48_2).f2))), .int .i64 x124001_2]] (by rfl) rfl rfl rfl (by (try simp only [List.map_toArray, List.map_cons, List.map_nil]); first | done | rfl) ?_
                        with_reducible refine (hcl.hc (wrap64 (x124000_2 + ((rd_T54 t120 x48_2).f2))) x124001_2 t128 _ A49.out).mono ?_
                        rintro e w52 ⟨rfl, hb⟩
                        refine ⟨_, rfl, ?_⟩
                        have n0_ := Az (Kd.R_below (by (with_reducible repeat (first | apply Kd.R_alloc | apply Kd.R_drewN | apply Kd.R_drew)); exact HO_5.out) hb)
                        have n1_ := Az (Kd.R_below (by (with_reducible repeat (first | apply Kd.R_alloc | apply Kd.R_drewN | apply Kd.R_drew)); exact HO_10.out) hb)
                        have n2_ := Az (Kd.R_below (by (with_reducible repeat (first | apply Kd.R_alloc | apply Kd.R_drewN | apply Kd.R_drew)); exact HO_46.out) hb)
                        have n3_ := Az (blk_below (g := gb123) (o := .cells #[.int .i64 (wrap64 (x124000_2 + ((rd_T54 t120 x48_2).f2))), .int .i64 x124001_2] 48 (0, 0)) (by (with_reducible repeat (first | refine blk_drewN ?_ _ | refine blk_drew ?_ | refine blk_alloc ?_ _)); exact BK123.out) hb)
                        have n4_ := Az (blk_below (g := gb125) (o := .cells #[.int .i64 ((rd_T54 t120 x48_2).f0), .int .i64 ((rd_T54 t120 x48_2).f1), .int .i64 ((rd_T54 t120 x48_2).f2)] 54 (0, 0)) (by (with_reducible repeat (first | refine blk_drewN ?_ _ | refine blk_drew ?_ | refine blk_alloc ?_ _)); exact BK125.out) hb)
                        have n5_ := Az (below_step (by repeat (first | (with_reducible first | exact HB.out | apply bal | apply bdN | apply bd1 | refine below_set ?_ GE123.out | refine below_set ?_ GE125.out) | exact HB.out)) hb)
                        clear HO_5
                        clear HO_10
                        clear HO_46
                        clear BK123
                        clear BK125
                        clear HB
                        have HO_5 := n0_
                        have HO_10 := n1_
                        have HO_46 := n2_
                        have BK123 := n3_
                        have BK125 := n4_
                        have HB := n5_
                        clear n0_ n1_ n2_ n3_ n4_ n5_
                        (try clear hb)
                        (try clear hb2)
                        (try clear hk)
                        (try clear hi)
                        refine hK.out _ _ ⟨(blk_cell BK123.out 0).trans rfl, (blk_cell BK123.out 1).trans rfl⟩ (fun hHeld => ?_)
                        clear hK K
                        refine norm_ (a' := ?_) ?_ ?_
                        rotate_left
                        · show Act.put _ (some 80) _ = _
                          simp only [Act.put, lsA, lsZ, lsS, i64_w, i32_w]
                          rfl
                        refine pure_ (i := 21) (N := some 82) (v := ?_) (a' := ?_) #[true, true, true, true, true, true, true, true, true, true, true, true, true, true, true, true, true, true, true, true, true, true, false] rfl rfl (any_of HT_.out (by kernel_rfl)) (fun _ _ _ h => h) (Or.inl ⟨by rfl, ?_⟩) ?_ ?_
                        rotate_left
                        · intro w'
                          (try simp only [EQc31.out])
                          go_simp
                          with_reducible rfl
                        rotate_left
                        · simp only [Act.put, lsA, lsZ, lsS, i64_w, i32_w]
                          rfl
                        refine pure_ (i := 22) (N := some 83) (v := ?_) (a' := ?_) #[true, true, true, true, true, true, true, true, true, true, true, true, true, true, true, true, true, true, true, true, true, true, true] rfl rfl (any_of HT_.out (by kernel_rfl)) (fun _ _ _ h => h) (Or.inl ⟨by rfl, ?_⟩) ?_ ?_
                        rotate_left
                        · intro w'
                          (try simp only [EQc31.out])
                          go_simp
                          with_reducible rfl
                        rotate_left
                        · simp only [Act.put, lsA, lsZ, lsS, i64_w, i32_w]
                          rfl
                        refine done_ (done_of HT_.out (by kernel_rfl)) ?_
                        try go_wp2
                        go_meet
                        case rel => exact ⟨_, ((t128 == x12_2)), (by first | rfl | (simp; done) | (simp [*]; done)), H', ⟨by have := HK1.out; have := HK2.out; first | omega | exact Nat.le_refl _⟩, ⟨by (with_reducible repeat (first | apply Kd.R_alloc | apply Kd.R_drewN | apply Kd.R_drew)); exact HO_5.out⟩, ⟨by (with_reducible repeat (first | apply Kd.R_alloc | apply Kd.R_drewN | apply Kd.R_drew)); exact HO_10.out⟩, ⟨by (with_reducible repeat (first | apply Kd.R_alloc | apply Kd.R_drewN | apply Kd.R_drew)); exact HO_46.out⟩, ⟨by (with_reducible repeat (first | refine blk_drewN ?_ _ | refine blk_drew ?_ | refine blk_alloc ?_ _)); exact BK123.out⟩, ⟨by (with_reducible repeat (first | refine blk_drewN ?_ _ | refine blk_drew ?_ | refine blk_alloc ?_ _)); exact BK125.out⟩, ⟨by repeat (first | (with_reducible first | exact HB.out | apply bal | apply bdN | apply bd1 | refine below_set ?_ GE123.out | refine below_set ?_ GE125.out) | exact HB.out)⟩⟩
                    case rest =>
                      clear HC32
                      try clear p1
                      try clear q1
                      try clear hx1
                      try clear p2
                      try clear c3
                      try clear c4
                      try clear p6
                      try clear p12
                      try clear q12
                      try clear hx12
                      try clear c31
                      try clear c36
                      try clear c39
                      try clear c39b0
                      try clear c39b1
                      try clear c41
                      try clear c42
                      try clear c42b0
                      try clear c42b1
                      try clear hx126_0
                      try clear hx126_1
                      try clear hx126_2
                      try clear p126
                      try clear q126
                      obtain ⟨kq, x83_31, rfl, HA, HJ31, HO_5, HO_10, HO_46, BK123, BK125, HB⟩ := hcut
                      cases kq with
                      | zero => exact absurd HA.out (by simp [span_combine.j3])
                      | succ kj31 =>
                        have H := HA.out
                        clear HA
                        simp only [span_combine.j3] at H
                        by_cases c53 : x83_31 = true
                        · subst c53
                          have H1 : (span_combine.l2 pp kj31 t120 x10_2 x12_2 x13_2 t120 (t120.length : Int) (wrap64 (x48_2 + 1)) (wrap64 (x124000_2 + ((rd_T54 t120 x48_2).f2))) x124001_2) = some r := by rw [if_pos rfl] at H; exact H
                          clear H
                          have H := H1
                          clear H1
                          have H' := Az H
                          clear H
                          go_wp2
                          go_roundg kj31
                          case measure => have := HK1.out; have := HK2.out; have := HJ31.out; omega
                          case rel => exact ⟨(x10_2), (x12_2), (x13_2), (wrap64 (x48_2 + 1)), ((wrap64 (x124000_2 + ((rd_T54 t120 x48_2).f2)))), (x124001_2), (by first | rfl | (simp; done) | (simp [*]; done)), (by first | rfl | (simp; done) | (simp [*]; done)), (by first | rfl | (simp; done) | (simp [*]; done)), H', ⟨by have := HK1.out; have := HK2.out; have := HJ31.out; omega⟩, ⟨by (with_reducible repeat (first | apply Kd.R_alloc | apply Kd.R_drewN | apply Kd.R_drew)); exact Kd.R_mono HO_5.out (fun _ hk => trivial)⟩, ⟨by (with_reducible repeat (first | apply Kd.R_alloc | apply Kd.R_drewN | apply Kd.R_drew)); exact HO_10.out⟩, ⟨by (with_reducible repeat (first | apply Kd.R_alloc | apply Kd.R_drewN | apply Kd.R_drew)); exact Kd.R_mono HO_46.out (fun _ hk => trivial)⟩, ⟨by (with_reducible repeat (first | refine blk_drewN ?_ _ | refine blk_drew ?_ | refine blk_alloc ?_ _)); exact BK123.out⟩, ⟨by repeat (first | (with_reducible first | exact HB.out | apply bal | apply bdN | apply bd1 | refine below_set ?_ GE123.out | refine below_set ?_ GE125.out) | exact HB.out)⟩⟩
                        · replace c53 := Bool.eq_false_iff.mpr c53
                          subst c53
                          have H1 : (if x12_2 = true then (if x10_2.length < 8796093022208 then (span_combine.l2 pp kj31 t120 (x10_2 ++ [(⟨x13_2, ((rd_T54 t120 x48_2).f0)⟩ : S33)]) (!x12_2) ((rd_T54 t120 x48_2).f0) t120 (t120.length : Int) (wrap64 (x48_2 + 1)) (wrap64 (x124000_2 + ((rd_T54 t120 x48_2).f2))) x124001_2) else (none)) else (span_combine.l2 pp kj31 t120 x10_2 (!x12_2) ((rd_T54 t120 x48_2).f0) t120 (t120.length : Int) (wrap64 (x48_2 + 1)) (wrap64 (x124000_2 + ((rd_T54 t120 x48_2).f2))) x124001_2)) = some r := by rw [if_neg (show ¬ (false = true) by decide)] at H; exact H
                          clear H
                          have H := H1
                          clear H1
                          by_cases c54 : x12_2 = true
                          · subst c54
                            have H1 : (if x10_2.length < 8796093022208 then (span_combine.l2 pp kj31 t120 (x10_2 ++ [(⟨x13_2, ((rd_T54 t120 x48_2).f0)⟩ : S33)]) (!true) ((rd_T54 t120 x48_2).f0) t120 (t120.length : Int) (wrap64 (x48_2 + 1)) (wrap64 (x124000_2 + ((rd_T54 t120 x48_2).f2))) x124001_2) else (none)) = some r := by rw [if_pos rfl] at H; exact H
                            clear H
                            have H := H1
                            clear H1
                            by_cases c55 : x10_2.length < 8796093022208
                            · rw [if_pos c55] at H
                              have LMc55 := Az c55
                              clear c55
                              obtain ⟨y129, hy129⟩ : ∃ y_ : List (S33), y_ = (x10_2 ++ [(⟨x13_2, ((rd_T54 t120 x48_2).f0)⟩ : S33)]) := ⟨_, rfl⟩
                              replace H : (span_combine.l2 pp kj31 t120 y129 (!true) ((rd_T54 t120 x48_2).f0) t120 (t120.length : Int) (wrap64 (x48_2 + 1)) (wrap64 (x124000_2 + ((rd_T54 t120 x48_2).f2))) x124001_2) = some r := by first | (rw [hy129]; with_reducible exact H) | (have H2_ := (Option.bind_some _ _).symm.trans H; rw [hy129]; with_reducible exact H2_) | (have H2_ := (Option.bind_some _ _).symm.trans H; with_reducible exact H2_) | with_reducible exact H | (rw [hy129]; exact H) | exact H
                              have Ny129 := Az hy129
                              clear hy129
                              have H' := Az H
                              clear H
                              have hnb56 := NB125_123.out
                              have hnc56 := NB123_125.out
                              have hcz57_0 : wc.cell? ⟨gb125, 0, none⟩ = some (.int .i64 ((rd_T54 t120 x48_2).f0)) := (blk_cell BK125.out 0).trans rfl
                              have hcz57_1 : wc.cell? ⟨gb125, 1, none⟩ = some (.int .i64 ((rd_T54 t120 x48_2).f1)) := (blk_cell BK125.out 1).trans rfl
                              have hcz57_2 : wc.cell? ⟨gb125, 2, none⟩ = some (.int .i64 ((rd_T54 t120 x48_2).f2)) := (blk_cell BK125.out 2).trans rfl
                              have hfz57_0 := blk_frozen BK125.out 0
                              have hfz57_1 := blk_frozen BK125.out 1
                              have hfz57_2 := blk_frozen BK125.out 2
                              try go_wp2_with (first | ((with_reducible refine gate_builtin (b := .append) (xs := #[.tmp 85, .tmp 90]) rfl ?_); at_builtin; refine Kd.R_append k33 (w0 := w) w.heap.size rfl (.tmp 85) (.tmp 90) 22 33 (.agg #[(.int .i64 0), (.int .i64 0)]) 16 rfl Try.underlying22 info33 rfl (by decide) (by omega) u10 x10_2 (⟨x13_2, ((rd_T54 t120 x48_2).f0)⟩ : S33) [.int .i64 x13_2, .int .i64 ((rd_T54 t120 x48_2).f0)] (fun _ => True) (fun _ => False) rfl rfl ?aP (fun _ hk => hk.elim) ?aF ?aO ?aB ?aS ?aL ?_; (case aP => exact k33_mkM _ _ _ (⟨x13_2, ((rd_T54 t120 x48_2).f0)⟩ : S33)); (case aB => exact (by repeat (first | (with_reducible first | exact HB.out | apply bal | apply bdN | apply bd1 | refine below_set ?_ GE123.out | refine below_set ?_ GE125.out) | exact HB.out))); (case aF => exact (fun _ _ => trivial)); (case aO => exact (by (with_reducible repeat (first | apply Kd.R_alloc | apply Kd.R_drewN | apply Kd.R_drew)); exact HO_10.out)); (case aS => exact (below_size (by repeat (first | (with_reducible first | exact HB.out | apply bal | apply bdN | apply bd1 | refine below_set ?_ GE123.out | refine below_set ?_ GE125.out) | exact HB.out)))); (case aL => have := LMc55.out; omega); intro v130 w58 ho hb hg hat; rw [← Ny129.out] at ho; have n0_ := Az (Kd.R_over' (by (with_reducible repeat (first | apply Kd.R_alloc | apply Kd.R_drewN | apply Kd.R_drew)); exact HO_5.out) (Kd.R_typed (by (with_reducible repeat (first | apply Kd.R_alloc | apply Kd.R_drewN | apply Kd.R_drew)); exact HO_10.out)) (by decide) hg); have n1_ := Az (Kd.R_over' (by (with_reducible repeat (first | apply Kd.R_alloc | apply Kd.R_drewN | apply Kd.R_drew)); exact HO_46.out) (Kd.R_typed (by (with_reducible repeat (first | apply Kd.R_alloc | apply Kd.R_drewN | apply Kd.R_drew)); exact HO_10.out)) (by decide) hg); have n2_ := Az (blk_grown (g := gb123) (o := .cells #[.int .i64 (wrap64 (x124000_2 + ((rd_T54 t120 x48_2).f2))), .int .i64 x124001_2] 48 (0, 0)) (by (with_reducible repeat (first | refine blk_drewN ?_ _ | refine blk_drew ?_ | refine blk_alloc ?_ _)); exact BK123.out) hg (Kd.R_ne HO_10.out BK123.out (by decide))); have n3_ := Az (blk_grown (g := gb125) (o := .cells #[.int .i64 ((rd_T54 t120 x48_2).f0), .int .i64 ((rd_T54 t120 x48_2).f1), .int .i64 ((rd_T54 t120 x48_2).f2)] 54 (0, 0)) (by (with_reducible repeat (first | refine blk_drewN ?_ _ | refine blk_drew ?_ | refine blk_alloc ?_ _)); exact BK125.out) hg (Kd.R_ne HO_10.out BK125.out (by decide))); have n4_ := Az (hb); have n5_ := Az (ho); clear HO_5; clear HO_46; clear BK123; clear BK125; clear HB; clear HO_10; have HO_5 := n0_; have HO_46 := n1_; have BK123 := n2_; have BK125 := n3_; have HB := n4_; have HO131 := n5_; clear n0_ n1_ n2_ n3_ n4_ n5_; clear ho hb hg hat))
                              have n0_ := Az (Kd.R_drew HO_5.out)
                              have n1_ := Az (Kd.R_drew HO_46.out)
                              have n2_ := Az (Kd.R_drew HO131.out)
                              have n3_ := Az (blk_drew BK123.out)
                              have n4_ := Az (blk_drew BK125.out)
                              have n5_ := Az (bd1 HB.out)
                              clear HO_5
                              clear HO_46
                              clear HO131
                              clear BK123
                              clear BK125
                              clear HB
                              have HO_5 := n0_
                              have HO_46 := n1_
                              have HO131 := n2_
                              have BK123 := n3_
                              have BK125 := n4_
                              have HB := n5_
                              clear n0_ n1_ n2_ n3_ n4_ n5_
                              refine start_ (n := 6) (S := fun w' => w'.cell? ⟨gb125, 0, none⟩ = some (.int .i64 ((rd_T54 t120 x48_2).f0)) ∧ w'.cell? ⟨gb125, 1, none⟩ = some (.int .i64 ((rd_T54 t120 x48_2).f1)) ∧ w'.cell? ⟨gb125, 2, none⟩ = some (.int .i64 ((rd_T54 t120 x48_2).f2))) (ds := []) #[false, false, false, false, false, false] (by kernel_rfl) rfl rfl ⟨(blk_cell BK125.out 0).trans rfl, (blk_cell BK125.out 1).trans rfl, (blk_cell BK125.out 2).trans rfl⟩ (fun hHeld => ?_)
                              generalize w58.drew = w59 at HO_5 HO_46 HO131 BK123 BK125 HB hHeld ⊢
                              refine pure_ (i := 0) (N := some 92) (v := ?_) (a' := ?_) #[true, false, false, false, false, false] rfl rfl (by kernel_rfl) (fun _ _ _ h => h) (Or.inl ⟨by rfl, ?_⟩) ?_ ?_
                              rotate_left
                              · intro w'
                                (try simp only [EQc31.out])
                                go_simp
                                with_reducible rfl
                              rotate_left
                              · simp only [Act.put, lsA, lsZ, lsS, i64_w, i32_w]
                                rfl
                              refine pure_ (i := 1) (N := some 93) (v := ?_) (a' := ?_) #[true, true, false, false, false, false] rfl rfl (by kernel_rfl) (fun _ _ _ h => h) (Or.inl ⟨by rfl, ?_⟩) ?_ ?_
                              rotate_left
                              · intro w'
                                (try simp only [EQc31.out])
                                go_simp
                                with_reducible rfl
                              rotate_left
                              · simp only [Act.put, lsA, lsZ, lsS, i64_w, i32_w]
                                rfl
                              refine pure_ (i := 2) (N := some 94) (v := ?_) (a' := ?_) #[true, true, true, false, false, false] rfl rfl (by kernel_rfl) (fun _ _ _ h => h) (Or.inl ⟨by rfl, ?_⟩) ?_ ?_
                              rotate_left
                              · intro w'
                                (try simp only [EQc31.out])
                                go_simp
                                with_reducible rfl
                              rotate_left
                              · simp only [Act.put, lsA, lsZ, lsS, i64_w, i32_w]
                                rfl
                              refine pure_ (i := 4) (N := some 12) (v := ?_) (a' := ?_) #[true, true, true, false, true, false] rfl rfl (by kernel_rfl) (fun _ _ _ h => h) (Or.inl ⟨by rfl, ?_⟩) ?_ ?_
                              rotate_left
                              · intro w'
                                (try simp only [EQc31.out])
                                go_simp
                                with_reducible rfl
                              rotate_left
                              · simp only [Act.put, lsA, lsZ, lsS, i64_w, i32_w]
                                rfl
                              refine take_ (i := 3) (N := some 95) (v := ?_) (a' := ?_) #[true, true, true, true, true, false] rfl rfl (by kernel_rfl) (fun _ _ _ h => h) (Or.inl ⟨by rfl, ?_⟩) hHeld ?_ ?_
                              rotate_left
                              · rintro w' ⟨s0, s1, s2⟩
                                (try simp only [EQc31.out])
                                go_simp
                                with_reducible rfl
                              rotate_left
                              · simp only [Act.put, lsA, lsZ, lsS, i64_w, i32_w]
                                rfl
                              refine pure_ (i := 5) (N := some 13) (v := ?_) (a' := ?_) #[true, true, true, true, true, true] rfl rfl (by kernel_rfl) (fun _ _ _ h => h) (Or.inl ⟨by rfl, ?_⟩) ?_ ?_
                              rotate_left
                              · intro w'
                                (try simp only [EQc31.out])
                                go_simp
                                with_reducible rfl
                              rotate_left
                              · simp only [Act.put, lsA, lsZ, lsS, i64_w, i32_w]
                                rfl
                              refine done_ (by kernel_rfl) ?_
                              try go_wp2
                              go_roundg kj31
                              case measure => have := HK1.out; have := HK2.out; have := HJ31.out; omega
                              case rel => exact ⟨(y129), (!true), (((rd_T54 t120 x48_2).f0)), (wrap64 (x48_2 + 1)), ((wrap64 (x124000_2 + ((rd_T54 t120 x48_2).f2)))), (x124001_2), (by first | rfl | (simp; done) | (simp [*]; done)), (by first | rfl | (simp; done) | (simp [*]; done)), (by first | rfl | (simp; done) | (simp [*]; done)), H', ⟨by have := HK1.out; have := HK2.out; have := HJ31.out; omega⟩, ⟨by (with_reducible repeat (first | apply Kd.R_alloc | apply Kd.R_drewN | apply Kd.R_drew)); exact Kd.R_mono HO_5.out (fun _ hk => trivial)⟩, ⟨by (with_reducible repeat (first | apply Kd.R_alloc | apply Kd.R_drewN | apply Kd.R_drew)); exact HO131.out⟩, ⟨by (with_reducible repeat (first | apply Kd.R_alloc | apply Kd.R_drewN | apply Kd.R_drew)); exact Kd.R_mono HO_46.out (fun _ hk => trivial)⟩, ⟨by (with_reducible repeat (first | refine blk_drewN ?_ _ | refine blk_drew ?_ | refine blk_alloc ?_ _)); exact BK123.out⟩, ⟨by repeat (first | (with_reducible first | exact HB.out | apply bal | apply bdN | apply bd1 | refine below_set ?_ GE123.out | refine below_set ?_ GE125.out) | exact HB.out)⟩⟩
                            · rw [if_neg c55] at H
                              exact absurd H (by simp)
                          · replace c54 := Bool.eq_false_iff.mpr c54
                            subst c54
                            have H1 : (span_combine.l2 pp kj31 t120 x10_2 (!false) ((rd_T54 t120 x48_2).f0) t120 (t120.length : Int) (wrap64 (x48_2 + 1)) (wrap64 (x124000_2 + ((rd_T54 t120 x48_2).f2))) x124001_2) = some r := by rw [if_neg (show ¬ (false = true) by decide)] at H; exact H
                            clear H
                            have H := H1
                            clear H1
                            have H' := Az H
                            clear H
                            try go_wp2
                            have n0_ := Az (Kd.R_drew HO_5.out)
                            have n1_ := Az (Kd.R_drew HO_10.out)
                            have n2_ := Az (Kd.R_drew HO_46.out)
                            have n3_ := Az (blk_drew BK123.out)
                            have n4_ := Az (blk_drew BK125.out)
                            have n5_ := Az (bd1 HB.out)
                            clear HO_5
                            clear HO_10
                            clear HO_46
                            clear BK123
                            clear BK125
                            clear HB
                            have HO_5 := n0_
                            have HO_10 := n1_
                            have HO_46 := n2_
                            have BK123 := n3_
                            have BK125 := n4_
                            have HB := n5_
                            clear n0_ n1_ n2_ n3_ n4_ n5_
                            refine start_ (n := 6) (S := fun w' => w'.cell? ⟨gb125, 0, none⟩ = some (.int .i64 ((rd_T54 t120 x48_2).f0)) ∧ w'.cell? ⟨gb125, 1, none⟩ = some (.int .i64 ((rd_T54 t120 x48_2).f1)) ∧ w'.cell? ⟨gb125, 2, none⟩ = some (.int .i64 ((rd_T54 t120 x48_2).f2))) (ds := []) #[false, false, false, false, false, false] (by kernel_rfl) rfl rfl ⟨(blk_cell BK125.out 0).trans rfl, (blk_cell BK125.out 1).trans rfl, (blk_cell BK125.out 2).trans rfl⟩ (fun hHeld => ?_)
                            generalize wc.drew = w60 at HO_5 HO_10 HO_46 BK123 BK125 HB hHeld ⊢
                            refine pure_ (i := 0) (N := some 92) (v := ?_) (a' := ?_) #[true, false, false, false, false, false] rfl rfl (by kernel_rfl) (fun _ _ _ h => h) (Or.inl ⟨by rfl, ?_⟩) ?_ ?_
                            rotate_left
                            · intro w'
                              (try simp only [EQc31.out])
                              go_simp
                              with_reducible rfl
                            rotate_left
                            · simp only [Act.put, lsA, lsZ, lsS, i64_w, i32_w]
                              rfl
                            refine pure_ (i := 1) (N := some 93) (v := ?_) (a' := ?_) #[true, true, false, false, false, false] rfl rfl (by kernel_rfl) (fun _ _ _ h => h) (Or.inl ⟨by rfl, ?_⟩) ?_ ?_
                            rotate_left
                            · intro w'
                              (try simp only [EQc31.out])
                              go_simp
                              with_reducible rfl
                            rotate_left
                            · simp only [Act.put, lsA, lsZ, lsS, i64_w, i32_w]
                              rfl
                            refine pure_ (i := 2) (N := some 94) (v := ?_) (a' := ?_) #[true, true, true, false, false, false] rfl rfl (by kernel_rfl) (fun _ _ _ h => h) (Or.inl ⟨by rfl, ?_⟩) ?_ ?_
                            rotate_left
                            · intro w'
                              (try simp only [EQc31.out])
                              go_simp
                              with_reducible rfl
                            rotate_left
                            · simp only [Act.put, lsA, lsZ, lsS, i64_w, i32_w]
                              rfl
                            refine pure_ (i := 4) (N := some 12) (v := ?_) (a' := ?_) #[true, true, true, false, true, false] rfl rfl (by kernel_rfl) (fun _ _ _ h => h) (Or.inl ⟨by rfl, ?_⟩) ?_ ?_
                            rotate_left
                            · intro w'
                              (try simp only [EQc31.out])
                              go_simp
                              with_reducible rfl
                            rotate_left
                            · simp only [Act.put, lsA, lsZ, lsS, i64_w, i32_w]
                              rfl
                            refine take_ (i := 3) (N := some 95) (v := ?_) (a' := ?_) #[true, true, true, true, true, false] rfl rfl (by kernel_rfl) (fun _ _ _ h => h) (Or.inl ⟨by rfl, ?_⟩) hHeld ?_ ?_
                            rotate_left
                            · rintro w' ⟨s0, s1, s2⟩
                              (try simp only [EQc31.out])
                              go_simp
                              with_reducible rfl
                            rotate_left
                            · simp only [Act.put, lsA, lsZ, lsS, i64_w, i32_w]
                              rfl
                            refine pure_ (i := 5) (N := some 13) (v := ?_) (a' := ?_) #[true, true, true, true, true, true] rfl rfl (by kernel_rfl) (fun _ _ _ h => h) (Or.inl ⟨by rfl, ?_⟩) ?_ ?_
                            rotate_left
                            · intro w'
                              (try simp only [EQc31.out])
                              go_simp
                              with_reducible rfl
                            rotate_left
                            · simp only [Act.put, lsA, lsZ, lsS, i64_w, i32_w]
                              rfl
                            refine done_ (by kernel_rfl) ?_
                            try go_wp2
                            go_roundg kj31
                            case measure => have := HK1.out; have := HK2.out; have := HJ31.out; omega
                            case rel => exact ⟨(x10_2), (!false), (((rd_T54 t120 x48_2).f0)), (wrap64 (x48_2 + 1)), ((wrap64 (x124000_2 + ((rd_T54 t120 x48_2).f2)))), (x124001_2), (by first | rfl | (simp; done) | (simp [*]; done)), (by first | rfl | (simp; done) | (simp [*]; done)), (by first | rfl | (simp; done) | (simp [*]; done)), H', ⟨by have := HK1.out; have := HK2.out; have := HJ31.out; omega⟩, ⟨by (with_reducible repeat (first | apply Kd.R_alloc | apply Kd.R_drewN | apply Kd.R_drew)); exact Kd.R_mono HO_5.out (fun _ hk => trivial)⟩, ⟨by (with_reducible repeat (first | apply Kd.R_alloc | apply Kd.R_drewN | apply Kd.R_drew)); exact HO_10.out⟩, ⟨by (with_reducible repeat (first | apply Kd.R_alloc | apply Kd.R_drewN | apply Kd.R_drew)); exact Kd.R_mono HO_46.out (fun _ hk => trivial)⟩, ⟨by (with_reducible repeat (first | refine blk_drewN ?_ _ | refine blk_drew ?_ | refine blk_alloc ?_ _)); exact BK123.out⟩, ⟨by repeat (first | (with_reducible first | exact HB.out | apply bal | apply bdN | apply bd1 | refine below_set ?_ GE123.out | refine below_set ?_ GE125.out) | exact HB.out)⟩⟩
                  · rw [if_neg c31] at H
                    have c31b0 : (((rd_T54 t120 x48_2).f1) == 0) = false := beq_eq_false_iff_ne.mpr c31
                    have c31b1 : (((rd_T54 t120 x48_2).f1) != 0) = true := bne_iff_ne.mpr c31
                    by_cases c61 : ((rd_T54 t120 x48_2).f1) = 1
                    · rw [if_pos c61] at H
                      have c61b0 : (((rd_T54 t120 x48_2).f1) == 1) = true := beq_iff_eq.mpr c61
                      have c61b1 : (((rd_T54 t120 x48_2).f1) != 1) = false := bne_eq_false_iff_eq.mpr c61
                      have EQc61 := Az c61
                      clear c61
                      have HC62 := Az H
                      clear H
                      have p124 : 0 ≤ (x48_2 : Int) := of_decide_eq_true (by first | (with_reducible assumption) | assumption)
                      have q124 : x48_2 < (t120.length : Int) := of_decide_eq_true (by first | (with_reducible assumption) | assumption)
                      obtain ⟨ad124, e124, hx124_0, hx124_1, hx124_2⟩ := at_T54 (Kd.R_reads' HO_46.out).2.2 x48_2 p124 q124
                      cases e124
                      replace p124 := eq_true p124
                      replace q124 := eq_true q124
                      try go_wp2_with (first | ((with_reducible refine gate_dst (N := 15) rfl ?_); refine box_event ?hg (N := 15) ?hd (cs := #[.int .i64 0, .int .i64 0, .int .i64 0]) (t := 54) ?hr ?_; (case hd => rfl); (case hg => rfl); (case hr => first | (go_simp; done) | (go_simp; rfl)); intro gb125 hg w63 hbox hb; have n0_ := Az (Kd.R_below (Kd.R_elderB (by (with_reducible repeat (first | apply Kd.R_alloc | apply Kd.R_drewN | apply Kd.R_drew)); exact HO_5.out) gb125 (Nat.le_of_eq hg.symm)) hb); have n1_ := Az (Kd.R_below (by (with_reducible repeat (first | apply Kd.R_alloc | apply Kd.R_drewN | apply Kd.R_drew)); exact HO_10.out) hb); have n2_ := Az (Kd.R_below (Kd.R_elderB (by (with_reducible repeat (first | apply Kd.R_alloc | apply Kd.R_drewN | apply Kd.R_drew)); exact HO_46.out) gb125 (Nat.le_of_eq hg.symm)) hb); have n3_ := Az (blk_below (g := gb123) (o := .cells #[.int .i64 x124000_2, .int .i64 x124001_2] 48 (0, 0)) (by (with_reducible repeat (first | refine blk_drewN ?_ _ | refine blk_drew ?_ | refine blk_alloc ?_ _)); exact BK123.out) hb); have n4_ := Az (below_step (by repeat (first | (with_reducible first | exact HB.out | apply bal | apply bdN | apply bd1 | refine below_set ?_ GE123.out) | exact HB.out)) hb); have n5_ := Az (hbox); have n6_ := Az ((by rw [hg]; exact (below_size (by repeat (first | (with_reducible first | exact HB.out | apply bal | apply bdN | apply bd1 | refine below_set ?_ GE123.out) | exact HB.out))) : w.heap.size ≤ gb125)); have n7_ := Az ((by rw [hg]; exact (below_size (by repeat (first | (with_reducible first | exact HB.out | apply bal | apply bdN | apply bd1 | refine below_set ?_ GE123.out) | exact HB.out))) : w.heap.size ≤ gb125)); have n8_ := Az ((by rw [hg]; exact Nat.ne_of_lt (blk_lt (g := gb123) (o := .cells #[.int .i64 x124000_2, .int .i64 x124001_2] 48 (0, 0)) (by (with_reducible repeat (first | refine blk_drewN ?_ _ | refine blk_drew ?_ | refine blk_alloc ?_ _)); exact BK123.out)) : gb123 ≠ gb125)); have n9_ := Az ((by rw [hg]; exact Nat.ne_of_gt (blk_lt (g := gb123) (o := .cells #[.int .i64 x124000_2, .int .i64 x124001_2] 48 (0, 0)) (by (with_reducible repeat (first | refine blk_drewN ?_ _ | refine blk_drew ?_ | refine blk_alloc ?_ _)); exact BK123.out)) : gb125 ≠ gb123)); clear HO_5; clear HO_10; clear HO_46; clear BK123; clear HB; have HO_5 := n0_; have HO_10 := n1_; have HO_46 := n2_; have BK123 := n3_; have HB := n4_; have BK125 := n5_; have GW125 := n6_; have GE125 := n7_; have NB123_125 := n8_; have NB125_123 := n9_; clear n0_ n1_ n2_ n3_ n4_ n5_ n6_ n7_ n8_ n9_; clear hb hbox hg; have hnb64 := NB125_123.out; have hnc64 := NB123_125.out; have hcz65_0 : w63.cell? ⟨gb125, 0, none⟩ = some (.int .i64 0) := (blk_cell BK125.out 0).trans rfl; have hcz65_1 : w63.cell? ⟨gb125, 1, none⟩ = some (.int .i64 0) := (blk_cell BK125.out 1).trans rfl; have hcz65_2 : w63.cell? ⟨gb125, 2, none⟩ = some (.int .i64 0) := (blk_cell BK125.out 2).trans rfl; have hfz65_0 := blk_frozen BK125.out 0; have hfz65_1 := blk_frozen BK125.out 1; have hfz65_2 := blk_frozen BK125.out 2))
                      have n0_ : Aside0 (Kd.R k54 54 (((w63.setCell ⟨gb125, 0, none⟩ (.int .i64 ((rd_T54 t120 x48_2).f0))).setCell ⟨gb125, 1, none⟩ (.int .i64 ((rd_T54 t120 x48_2).f1))).setCell ⟨gb125, 2, none⟩ (.int .i64 ((rd_T54 t120 x48_2).f2))) w.heap.size (fun k_ => k_ ≠ gb125) (.slice (some ad124) t120.length co27) t120) := ⟨by (with_reducible repeat (first | apply Kd.R_alloc | apply Kd.R_drewN | apply Kd.R_drew)); exact Kd.R_mono (Kd.R_far (p := ⟨gb125, 2, none⟩) (Kd.R_far (p := ⟨gb125, 1, none⟩) (Kd.R_far (p := ⟨gb125, 0, none⟩) (Kd.R_mono HO_5.out (fun k_ hk => (⟨hk, hk.2⟩ : _ ∧ k_ ≠ gb125))) (fun _ hk => hk.2) (.int .i64 ((rd_T54 t120 x48_2).f0))) (fun _ hk => hk.2) (.int .i64 ((rd_T54 t120 x48_2).f1))) (fun _ hk => hk.2) (.int .i64 ((rd_T54 t120 x48_2).f2))) (fun _ hk => hk.1.2)⟩
                      have n1_ : Aside0 (Kd.R k33 33 (((w63.setCell ⟨gb125, 0, none⟩ (.int .i64 ((rd_T54 t120 x48_2).f0))).setCell ⟨gb125, 1, none⟩ (.int .i64 ((rd_T54 t120 x48_2).f1))).setCell ⟨gb125, 2, none⟩ (.int .i64 ((rd_T54 t120 x48_2).f2))) w.heap.size (fun _ => True) u10 x10_2) := ⟨by (with_reducible repeat (first | apply Kd.R_alloc | apply Kd.R_drewN | apply Kd.R_drew)); exact Kd.R_mono (Kd.R_far (p := ⟨gb125, 2, none⟩) (Kd.R_far (p := ⟨gb125, 1, none⟩) (Kd.R_far (p := ⟨gb125, 0, none⟩) (Kd.R_types HO_10.out BK125.out (by decide)) (fun _ hk => hk.2) (.int .i64 ((rd_T54 t120 x48_2).f0))) (fun _ hk => hk.2) (.int .i64 ((rd_T54 t120 x48_2).f1))) (fun _ hk => hk.2) (.int .i64 ((rd_T54 t120 x48_2).f2))) (fun _ hk => trivial)⟩
                      have n2_ : Aside0 (Kd.R k54 54 (((w63.setCell ⟨gb125, 0, none⟩ (.int .i64 ((rd_T54 t120 x48_2).f0))).setCell ⟨gb125, 1, none⟩ (.int .i64 ((rd_T54 t120 x48_2).f1))).setCell ⟨gb125, 2, none⟩ (.int .i64 ((rd_T54 t120 x48_2).f2))) w.heap.size (fun k_ => k_ ≠ gb125) (.slice (some ad124) t120.length co27) t120) := ⟨by (with_reducible repeat (first | apply Kd.R_alloc | apply Kd.R_drewN | apply Kd.R_drew)); exact Kd.R_mono (Kd.R_far (p := ⟨gb125, 2, none⟩) (Kd.R_far (p := ⟨gb125, 1, none⟩) (Kd.R_far (p := ⟨gb125, 0, none⟩) (Kd.R_mono HO_46.out (fun k_ hk => (⟨hk, hk.2⟩ : _ ∧ k_ ≠ gb125))) (fun _ hk => hk.2) (.int .i64 ((rd_T54 t120 x48_2).f0))) (fun _ hk => hk.2) (.int .i64 ((rd_T54 t120 x48_2).f1))) (fun _ hk => hk.2) (.int .i64 ((rd_T54 t120 x48_2).f2))) (fun _ hk => hk.1.2)⟩
                      have n3_ : Aside0 ((((w63.setCell ⟨gb125, 0, none⟩ (.int .i64 ((rd_T54 t120 x48_2).f0))).setCell ⟨gb125, 1, none⟩ (.int .i64 ((rd_T54 t120 x48_2).f1))).setCell ⟨gb125, 2, none⟩ (.int .i64 ((rd_T54 t120 x48_2).f2))).heap[gb123]? = some (.cells #[.int .i64 x124000_2, .int .i64 x124001_2] 48 (0, 0))) := ⟨by (with_reducible repeat (first | refine blk_drewN ?_ _ | refine blk_drew ?_ | refine blk_alloc ?_ _)); refine blk_far ?_ NB123_125.out _; (with_reducible repeat (first | refine blk_drewN ?_ _ | refine blk_drew ?_ | refine blk_alloc ?_ _)); refine blk_far ?_ NB123_125.out _; (with_reducible repeat (first | refine blk_drewN ?_ _ | refine blk_drew ?_ | refine blk_alloc ?_ _)); refine blk_far ?_ NB123_125.out _; (with_reducible repeat (first | refine blk_drewN ?_ _ | refine blk_drew ?_ | refine blk_alloc ?_ _)); exact BK123.out⟩
                      have n4_ : Aside0 ((((w63.setCell ⟨gb125, 0, none⟩ (.int .i64 ((rd_T54 t120 x48_2).f0))).setCell ⟨gb125, 1, none⟩ (.int .i64 ((rd_T54 t120 x48_2).f1))).setCell ⟨gb125, 2, none⟩ (.int .i64 ((rd_T54 t120 x48_2).f2))).heap[gb125]? = some (.cells #[.int .i64 ((rd_T54 t120 x48_2).f0), .int .i64 ((rd_T54 t120 x48_2).f1), .int .i64 ((rd_T54 t120 x48_2).f2)] 54 (0, 0))) := ⟨by (with_reducible repeat (first | refine blk_drewN ?_ _ | refine blk_drew ?_ | refine blk_alloc ?_ _)); refine blk_put (cs := #[.int .i64 ((rd_T54 t120 x48_2).f0), .int .i64 ((rd_T54 t120 x48_2).f1), .int .i64 0]) ?_ 2 _ rfl; (with_reducible repeat (first | refine blk_drewN ?_ _ | refine blk_drew ?_ | refine blk_alloc ?_ _)); refine blk_put (cs := #[.int .i64 ((rd_T54 t120 x48_2).f0), .int .i64 0, .int .i64 0]) ?_ 1 _ rfl; (with_reducible repeat (first | refine blk_drewN ?_ _ | refine blk_drew ?_ | refine blk_alloc ?_ _)); refine blk_put (cs := #[.int .i64 0, .int .i64 0, .int .i64 0]) ?_ 0 _ rfl; (with_reducible repeat (first | refine blk_drewN ?_ _ | refine blk_drew ?_ | refine blk_alloc ?_ _)); exact BK125.out⟩
                      have n5_ : Aside0 (Below w.heap.size w (((w63.setCell ⟨gb125, 0, none⟩ (.int .i64 ((rd_T54 t120 x48_2).f0))).setCell ⟨gb125, 1, none⟩ (.int .i64 ((rd_T54 t120 x48_2).f1))).setCell ⟨gb125, 2, none⟩ (.int .i64 ((rd_T54 t120 x48_2).f2)))) := ⟨by repeat (first | (with_reducible first | exact HB.out | apply bal | apply bdN | apply bd1 | refine below_set ?_ GE123.out | refine below_set ?_ GE125.out) | exact HB.out)⟩
                      (try clear HO_5)
                      (try clear HO_10)
                      (try clear HO_46)
                      (try clear BK123)
                      (try clear BK125)
                      (try clear HB)
                      generalize (((w63.setCell ⟨gb125, 0, none⟩ (.int .i64 ((rd_T54 t120 x48_2).f0))).setCell ⟨gb125, 1, none⟩ (.int .i64 ((rd_T54 t120 x48_2).f1))).setCell ⟨gb125, 2, none⟩ (.int .i64 ((rd_T54 t120 x48_2).f2))) = w66 at n0_ n1_ n2_ n3_ n4_ n5_ ⊢
                      have HO_5 := n0_
                      have HO_10 := n1_
                      have HO_46 := n2_
                      have BK123 := n3_
                      have BK125 := n4_
                      have HB := n5_
                      clear n0_ n1_ n2_ n3_ n4_ n5_
                      have n0_ := Az (Kd.R_drew HO_5.out)
                      have n1_ := Az (Kd.R_drew HO_10.out)
                      have n2_ := Az (Kd.R_drew HO_46.out)
                      have n3_ := Az (blk_drew BK123.out)
                      have n4_ := Az (blk_drew BK125.out)
                      have n5_ := Az (bd1 HB.out)
                      clear HO_5
                      clear HO_10
                      clear HO_46
                      clear BK123
                      clear BK125
                      clear HB
                      have HO_5 := n0_
                      have HO_10 := n1_
                      have HO_46 := n2_
                      have BK123 := n3_
                      have BK125 := n4_
                      have HB := n5_
                      clear n0_ n1_ n2_ n3_ n4_ n5_
                      refine start_ (n := 9) (S := fun w' => w'.cell? ⟨gb125, 0, none⟩ = some (.int .i64 ((rd_T54 t120 x48_2).f0)) ∧ w'.cell? ⟨gb125, 1, none⟩ = some (.int .i64 ((rd_T54 t120 x48_2).f1)) ∧ w'.cell? ⟨gb125, 2, none⟩ = some (.int .i64 ((rd_T54 t120 x48_2).f2)) ∧ w'.cell? ⟨gb123, 0, none⟩ = some (.int .i64 x124000_2) ∧ w'.cell? ⟨gb123, 1, none⟩ = some (.int .i64 x124001_2)) (ds := [8]) #[false, false, false, false, false, false, false, false, false] (by kernel_rfl) rfl rfl ⟨(blk_cell BK125.out 0).trans rfl, (blk_cell BK125.out 1).trans rfl, (blk_cell BK125.out 2).trans rfl, (blk_cell BK123.out 0).trans rfl, (blk_cell BK123.out 1).trans rfl⟩ (fun hHeld => ?_); refine with_tabW span_combine.tab19 span_combine.bits19 (fun HT_ HW_ => ?_)
                      generalize w66.drew = w67 at HO_5 HO_10 HO_46 BK123 BK125 HB hHeld ⊢
                      refine pure_ (i := 0) (N := some 53) (v := ?_) (a' := ?_) #[true, false, false, false, false, false, false, false, false] rfl rfl (any_of HT_.out (by kernel_rfl)) (fun _ _ _ h => h) (Or.inl ⟨by rfl, ?_⟩) ?_ ?_
                      rotate_left
                      · intro w'
                        (try simp only [EQc61.out])
                        go_simp
                        with_reducible rfl
                      rotate_left
                      · simp only [Act.put, lsA, lsZ, lsS, i64_w, i32_w]
                        rfl
                      refine pure_ (i := 4) (N := some 57) (v := ?_) (a' := ?_) #[true, false, false, false, true, false, false, false, false] rfl rfl (any_of HT_.out (by kernel_rfl)) (fun _ _ _ h => h) (Or.inl ⟨by rfl, ?_⟩) ?_ ?_
                      rotate_left
                      · intro w'
                        (try simp only [EQc61.out])
                        go_simp
                        with_reducible rfl
                      rotate_left
                      · simp only [Act.put, lsA, lsZ, lsS, i64_w, i32_w]
                        rfl
                      refine take_ (i := 1) (N := some 54) (v := ?_) (a' := ?_) #[true, true, false, false, true, false, false, false, false] rfl rfl (take_ofW HT_.out HW_.out (by kernel_rfl)) (fun _ _ _ h => h) (Or.inl ⟨by rfl, ?_⟩) hHeld ?_ ?_
                      rotate_left
                      · rintro w' ⟨s0, s1, s2, s3, s4⟩
                        (try simp only [EQc61.out])
                        go_simp
                        with_reducible rfl
                      rotate_left
                      · simp only [Act.put, lsA, lsZ, lsS, i64_w, i32_w]
                        rfl
                      refine pure_ (i := 2) (N := some 55) (v := ?_) (a' := ?_) #[true, true, true, false, true, false, false, false, false] rfl rfl (any_of HT_.out (by kernel_rfl)) (fun _ _ _ h => h) (Or.inl ⟨by rfl, ?_⟩) ?_ ?_
                      rotate_left
                      · intro w'
                        (try simp only [EQc61.out])
                        go_simp
                        with_reducible rfl
                      rotate_left
                      · simp only [Act.put, lsA, lsZ, lsS, i64_w, i32_w]
                        rfl
                      refine take_ (i := 3) (N := some 56) (v := ?_) (a' := ?_) #[true, true, true, true, true, false, false, false, false] rfl rfl (take_ofW HT_.out HW_.out (by kernel_rfl)) (fun _ _ _ h => h) (Or.inl ⟨by rfl, ?_⟩) hHeld ?_ ?_
                      rotate_left
                      · rintro w' ⟨s0, s1, s2, s3, s4⟩
                        (try simp only [EQc61.out])
                        go_simp
                        with_reducible rfl
                      rotate_left
                      · simp only [Act.put, lsA, lsZ, lsS, i64_w, i32_w]
                        rfl
                      refine take_ (i := 5) (N := some 58) (v := ?_) (a' := ?_) #[true, true, true, true, true, true, false, false, false] rfl rfl (take_ofW HT_.out HW_.out (by kernel_rfl)) (fun _ _ _ h => h) (Or.inl ⟨by rfl, ?_⟩) hHeld ?_ ?_
                      rotate_left
                      · rintro w' ⟨s0, s1, s2, s3, s4⟩
                        (try simp only [EQc61.out])
                        go_simp
                        with_reducible rfl
                      rotate_left
                      · simp only [Act.put, lsA, lsZ, lsS, i64_w, i32_w]
                        rfl
                      refine pure_ (i := 6) (N := some 59) (v := ?_) (a' := ?_) #[true, true, true, true, true, true, true, false, false] rfl rfl (any_of HT_.out (by kernel_rfl)) (fun _ _ _ h => h) (Or.inl ⟨by rfl, ?_⟩) ?_ ?_
                      rotate_left
                      · intro w'
                        (try simp only [EQc61.out])
                        go_simp
                        with_reducible rfl
                      rotate_left
                      · simp only [Act.put, lsA, lsZ, lsS, i64_w, i32_w]
                        rfl
                      refine pure_ (i := 7) (N := some 60) (v := ?_) (a' := ?_) #[true, true, true, true, true, true, true, true, false] rfl rfl (any_of HT_.out (by kernel_rfl)) (fun _ _ _ h => h) (Or.inl ⟨by rfl, ?_⟩) ?_ ?_
                      rotate_left
                      · intro w'
                        (try simp only [EQc61.out])
                        go_simp
                        with_reducible rfl
                      rotate_left
                      · simp only [Act.put, lsA, lsZ, lsS, i64_w, i32_w]
                        rfl
                      refine last_ (i := 8) (N := none) #[true, true, true, true, true, true, true, true, true] rfl rfl (one_of HT_.out (by kernel_rfl)) (by decide) (fun K hK => ?_)
                      have hs68 : w67.cell? ⟨gb123, 1, none⟩ = some (.int .i64 x124001_2) := (blk_cell BK123.out 1).trans rfl
                      have hfs68 := blk_frozen BK123.out 1
                      have hns68_1 := NB125_123.out
                      have hms68_1 := NB123_125.out
                      refine skip_ (w1 := ?_) (by rfl) rfl ?_ ?_
                      rotate_left
                      · go_simp
                        rfl
                      refine hK.out _ _ ?_
                      clear hK K
                      refine done_ (done_of HT_.out (by kernel_rfl)) ?_
                      go_upto_region 20 with (fail)
                      go_cut [83] (fun v83 wc => ∃ (kq : Nat) (x83_61 : Bool), v83 = .bool x83_61 ∧ Aside0 (span_combine.j4 pp kq t120 x10_2 x12_2 x13_2 t120 (t120.length : Int) x48_2 x83_61 x124000_2 (wrap64 (x124001_2 + ((rd_T54 t120 x48_2).f2))) ((rd_T54 t120 x48_2).f0) ((rd_T54 t120 x48_2).f1) ((rd_T54 t120 x48_2).f2) = some r) ∧ Aside0 (kq ≤ k2) ∧ Aside0 (Kd.R k54 54 wc w.heap.size (fun k_ => k_ ≠ gb125) (.slice (some ad124) t120.length co27) t120) ∧ Aside0 (Kd.R k33 33 wc w.heap.size (fun _ => True) u10 x10_2) ∧ Aside0 (Kd.R k54 54 wc w.heap.size (fun k_ => k_ ≠ gb125) (.slice (some ad124) t120.length co27) t120) ∧ Aside0 (wc.heap[gb123]? = some (.cells #[.int .i64 x124000_2, .int .i64 (wrap64 (x124001_2 + ((rd_T54 t120 x48_2).f2)))] 48 (0, 0))) ∧ Aside0 (wc.heap[gb125]? = some (.cells #[.int .i64 ((rd_T54 t120 x48_2).f0), .int .i64 ((rd_T54 t120 x48_2).f1), .int .i64 ((rd_T54 t120 x48_2).f2)] 54 (0, 0))) ∧ Aside0 (Below w.heap.size w wc))
                      case first =>
                        have H := HC62.out
                        clear HC62
                        by_cases c69 : (wrap64 (x48_2 + 1)) < (t120.length : Int)
                        · rw [if_pos c69] at H
                          have c69b0 : decide ((wrap64 (x48_2 + 1)) < (t120.length : Int)) = true := decide_eq_true c69
                          clear c69
                          (first | rw [c69b0] | (simp only [i64_w, i32_w]; rw [c69b0]) | rw [c69b1] | skip)
                          obtain ⟨ji70, hji70⟩ : ∃ j_ : Int, (wrap64 (x48_2 + 1)) = j_ := ⟨_, rfl⟩
                          replace H : (if 0 ≤ (ji70) then (if ((rd_T54 t120 (ji70)).f0) = ((rd_T54 t120 x48_2).f0) then (span_combine.j4 pp k2 t120 x10_2 x12_2 x13_2 t120 (t120.length : Int) x48_2 true x124000_2 (wrap64 (x124001_2 + ((rd_T54 t120 x48_2).f2))) ((rd_T54 t120 x48_2).f0) ((rd_T54 t120 x48_2).f1) ((rd_T54 t120 x48_2).f2)) else ((pp x124000_2 (wrap64 (x124001_2 + ((rd_T54 t120 x48_2).f2)))).bind fun t133 => (span_combine.j4 pp k2 t120 x10_2 x12_2 x13_2 t120 (t120.length : Int) x48_2 (t133 == x12_2) x124000_2 (wrap64 (x124001_2 + ((rd_T54 t120 x48_2).f2))) ((rd_T54 t120 x48_2).f0) ((rd_T54 t120 x48_2).f1) ((rd_T54 t120 x48_2).f2)))) else (none)) = some r := by first | (rw [hji70] at H; exact H) | (simp only [hji70] at H ⊢; exact H)
                          (try rw [hji70] at c69b0)
                          have hji70w : (IntKind.i64.wrap (x48_2 + 1)) = ji70 := (i64_w _).trans hji70
                          by_cases c71 : 0 ≤ (ji70)
                          · rw [if_pos c71] at H
                            have c71b0 : decide (0 ≤ (ji70)) = true := decide_eq_true c71
                            clear c71
                            by_cases c72 : ((rd_T54 t120 (ji70)).f0) = ((rd_T54 t120 x48_2).f0)
                            · rw [if_pos c72] at H
                              have c72b0 : (((rd_T54 t120 (ji70)).f0) == ((rd_T54 t120 x48_2).f0)) = true := beq_iff_eq.mpr c72
                              have c72b1 : (((rd_T54 t120 (ji70)).f0) != ((rd_T54 t120 x48_2).f0)) = false := bne_eq_false_iff_eq.mpr c72
                              clear c72
                              have H' := Az H
                              clear H
                              try go_wp2
                              have n0_ : Aside0 (Kd.R k54 54 (w67.setCell ⟨gb123, 1, none⟩ (.int .i64 (wrap64 (x124001_2 + ((rd_T54 t120 x48_2).f2))))) w.heap.size (fun k_ => k_ ≠ gb125) (.slice (some ad124) t120.length co27) t120) := ⟨by (with_reducible repeat (first | apply Kd.R_alloc | apply Kd.R_drewN | apply Kd.R_drew)); exact Kd.R_mono (Kd.R_far (p := ⟨gb123, 1, none⟩) (Kd.R_types HO_5.out BK123.out (by decide)) (fun _ hk => hk.2) (.int .i64 (wrap64 (x124001_2 + ((rd_T54 t120 x48_2).f2))))) (fun _ hk => hk.1)⟩
                              have n1_ : Aside0 (Kd.R k33 33 (w67.setCell ⟨gb123, 1, none⟩ (.int .i64 (wrap64 (x124001_2 + ((rd_T54 t120 x48_2).f2))))) w.heap.size (fun _ => True) u10 x10_2) := ⟨by (with_reducible repeat (first | apply Kd.R_alloc | apply Kd.R_drewN | apply Kd.R_drew)); exact Kd.R_mono (Kd.R_far (p := ⟨gb123, 1, none⟩) (Kd.R_types HO_10.out BK123.out (by decide)) (fun _ hk => hk.2) (.int .i64 (wrap64 (x124001_2 + ((rd_T54 t120 x48_2).f2))))) (fun _ hk => trivial)⟩
                              have n2_ : Aside0 (Kd.R k54 54 (w67.setCell ⟨gb123, 1, none⟩ (.int .i64 (wrap64 (x124001_2 + ((rd_T54 t120 x48_2).f2))))) w.heap.size (fun k_ => k_ ≠ gb125) (.slice (some ad124) t120.length co27) t120) := ⟨by (with_reducible repeat (first | apply Kd.R_alloc | apply Kd.R_drewN | apply Kd.R_drew)); exact Kd.R_mono (Kd.R_far (p := ⟨gb123, 1, none⟩) (Kd.R_types HO_46.out BK123.out (by decide)) (fun _ hk => hk.2) (.int .i64 (wrap64 (x124001_2 + ((rd_T54 t120 x48_2).f2))))) (fun _ hk => hk.1)⟩
                              have n3_ : Aside0 ((w67.setCell ⟨gb123, 1, none⟩ (.int .i64 (wrap64 (x124001_2 + ((rd_T54 t120 x48_2).f2))))).heap[gb123]? = some (.cells #[.int .i64 x124000_2, .int .i64 (wrap64 (x124001_2 + ((rd_T54 t120 x48_2).f2)))] 48 (0, 0))) := ⟨by (with_reducible repeat (first | refine blk_drewN ?_ _ | refine blk_drew ?_ | refine blk_alloc ?_ _)); refine blk_put (cs := #[.int .i64 x124000_2, .int .i64 x124001_2]) ?_ 1 _ rfl; (with_reducible repeat (first | refine blk_drewN ?_ _ | refine blk_drew ?_ | refine blk_alloc ?_ _)); exact BK123.out⟩
                              have n4_ : Aside0 ((w67.setCell ⟨gb123, 1, none⟩ (.int .i64 (wrap64 (x124001_2 + ((rd_T54 t120 x48_2).f2))))).heap[gb125]? = some (.cells #[.int .i64 ((rd_T54 t120 x48_2).f0), .int .i64 ((rd_T54 t120 x48_2).f1), .int .i64 ((rd_T54 t120 x48_2).f2)] 54 (0, 0))) := ⟨by (with_reducible repeat (first | refine blk_drewN ?_ _ | refine blk_drew ?_ | refine blk_alloc ?_ _)); refine blk_far ?_ NB125_123.out _; (with_reducible repeat (first | refine blk_drewN ?_ _ | refine blk_drew ?_ | refine blk_alloc ?_ _)); exact BK125.out⟩
                              have n5_ : Aside0 (Below w.heap.size w (w67.setCell ⟨gb123, 1, none⟩ (.int .i64 (wrap64 (x124001_2 + ((rd_T54 t120 x48_2).f2)))))) := ⟨by repeat (first | (with_reducible first | exact HB.out | apply bal | apply bdN | apply bd1 | refine below_set ?_ GE123.out | refine below_set ?_ GE125.out) | exact HB.out)⟩
                              (try clear HO_5)
                              (try clear HO_10)
                              (try clear HO_46)
                              (try clear BK123)
                              (try clear BK125)
                              (try clear HB)
                              generalize (w67.setCell ⟨gb123, 1, none⟩ (.int .i64 (wrap64 (x124001_2 + ((rd_T54 t120 x48_2).f2))))) = w73 at n0_ n1_ n2_ n3_ n4_ n5_ ⊢
                              have HO_5 := n0_
                              have HO_10 := n1_
                              have HO_46 := n2_
                              have BK123 := n3_
                              have BK125 := n4_
                              have HB := n5_
                              clear n0_ n1_ n2_ n3_ n4_ n5_
                              have n0_ := Az (Kd.R_drew HO_5.out)
                              have n1_ := Az (Kd.R_drew HO_10.out)
                              have n2_ := Az (Kd.R_drew HO_46.out)
                              have n3_ := Az (blk_drew BK123.out)
                              have n4_ := Az (blk_drew BK125.out)
                              have n5_ := Az (bd1 HB.out)
                              clear HO_5
                              clear HO_10
                              clear HO_46
                              clear BK123
                              clear BK125
                              clear HB
                              have HO_5 := n0_
                              have HO_10 := n1_
                              have HO_46 := n2_
                              have BK123 := n3_
                              have BK125 := n4_
                              have HB := n5_
                              clear n0_ n1_ n2_ n3_ n4_ n5_
                              have p132 : 0 ≤ ((ji70) : Int) := of_decide_eq_true (by first | (with_reducible assumption) | assumption)
                              have q132 : (ji70) < (t120.length : Int) := of_decide_eq_true (by first | (with_reducible assumption) | assumption)
                              obtain ⟨ad132, e132, hx132_0, hx132_1, hx132_2⟩ := at_T54 (Kd.R_reads' HO_5.out).2.2 (ji70) p132 q132
                              obtain rfl : ad124 = ad132 := (by injection e132)
                              replace p132 := eq_true p132
                              replace q132 := eq_true q132
                              refine start_ (n := 23) (S := fun w' => w'.cell? ⟨gb125, 0, none⟩ = some (.int .i64 ((rd_T54 t120 x48_2).f0)) ∧ w'.cell? ⟨gb125, 1, none⟩ = some (.int .i64 ((rd_T54 t120 x48_2).f1)) ∧ w'.cell? ⟨gb125, 2, none⟩ = some (.int .i64 ((rd_T54 t120 x48_2).f2)) ∧ w'.cell? (ad124.add (((ji70)).toNat * 3)) = some (.int .i64 ((rd_T54 t120 (ji70)).f0)) ∧ w'.cell? ⟨(ad124.add (((ji70)).toNat * 3)).block, (ad124.add (((ji70)).toNat * 3)).off + 1, none⟩ = some (.int .i64 ((rd_T54 t120 (ji70)).f1)) ∧ w'.cell? ⟨(ad124.add (((ji70)).toNat * 3)).block, (ad124.add (((ji70)).toNat * 3)).off + 2, none⟩ = some (.int .i64 ((rd_T54 t120 (ji70)).f2))) (ds := []) #[false, false, false, false, false, false, false, false, false, false, false, false, false, false, false, false, false, false, false, false, false, false, false] (by kernel_rfl) rfl rfl ⟨(blk_cell BK125.out 0).trans rfl, (blk_cell BK125.out 1).trans rfl, (blk_cell BK125.out 2).trans rfl, hx132_0, hx132_1, hx132_2⟩ (fun hHeld => ?_); refine with_tabW span_combine.tab20 span_combine.bits20 (fun HT_ HW_ => ?_)
                              generalize w73.drew = w74 at HO_5 HO_10 HO_46 BK123 BK125 HB hx132_0 hx132_1 hx132_2 hHeld ⊢
                              refine pure_ (i := 0) (N := some 61) (v := ?_) (a' := ?_) #[true, false, false, false, false, false, false, false, false, false, false, false, false, false, false, false, false, false, false, false, false, false, false] rfl rfl (any_of HT_.out (by kernel_rfl)) (fun _ _ _ h => h) (Or.inl ⟨by rfl, ?_⟩) ?_ ?_
                              rotate_left
                              · intro w'
                                (try simp only [EQc61.out])
                                go_simp
                                with_reducible rfl
                              rotate_left
                              · simp only [Act.put, lsA, lsZ, lsS, i64_w, i32_w]
                                rfl
                              refine pure_ (i := 1) (N := some 62) (v := ?_) (a' := ?_) #[true, true, false, false, false, false, false, false, false, false, false, false, false, false, false, false, false, false, false, false, false, false, false] rfl rfl (any_of HT_.out (by kernel_rfl)) (fun _ _ _ h => h) (Or.inl ⟨by rfl, ?_⟩) ?_ ?_
                              rotate_left
                              · intro w'
                                (try simp only [EQc61.out])
                                go_simp
                                with_reducible rfl
                              rotate_left
                              · simp only [Act.put, lsA, lsZ, lsS, i64_w, i32_w]
                                rfl
                              refine pure_ (i := 2) (N := some 63) (v := ?_) (a' := ?_) #[true, true, true, false, false, false, false, false, false, false, false, false, false, false, false, false, false, false, false, false, false, false, false] rfl rfl (any_of HT_.out (by kernel_rfl)) (fun _ _ _ h => h) (Or.inl ⟨by rfl, ?_⟩) ?_ ?_
                              rotate_left
                              · intro w'
                                (try simp only [EQc61.out])
                                go_simp
                                with_reducible rfl
                              rotate_left
                              · simp only [Act.put, lsA, lsZ, lsS, i64_w, i32_w]
                                rfl
                              refine pure_ (i := 3) (N := some 64) (v := ?_) (a' := ?_) #[true, true, true, true, false, false, false, false, false, false, false, false, false, false, false, false, false, false, false, false, false, false, false] rfl rfl (any_of HT_.out (by kernel_rfl)) (fun _ _ _ h => h) (Or.inl ⟨by rfl, ?_⟩) ?_ ?_
                              rotate_left
                              · intro w'
                                (try simp only [EQc61.out])
                                go_simp
                                with_reducible rfl
                              rotate_left
                              · simp only [Act.put, lsA, lsZ, lsS, i64_w, i32_w]
                                rfl
                              refine pure_ (i := 4) (N := some 65) (v := ?_) (a' := ?_) #[true, true, true, true, true, false, false, false, false, false, false, false, false, false, false, false, false, false, false, false, false, false, false] rfl rfl (any_of HT_.out (by kernel_rfl)) (fun _ _ _ h => h) (Or.inl ⟨by rfl, ?_⟩) ?_ ?_
                              rotate_left
                              · intro w'
                                (try simp only [EQc61.out])
                                go_simp
                                with_reducible rfl
                              rotate_left
                              · simp only [Act.put, lsA, lsZ, lsS, i64_w, i32_w]
                                rfl
                              refine pure_ (i := 5) (N := some 66) (v := ?_) (a' := ?_) #[true, true, true, true, true, true, false, false, false, false, false, false, false, false, false, false, false, false, false, false, false, false, false] rfl rfl (any_of HT_.out (by kernel_rfl)) (fun _ _ _ h => h) (Or.inl ⟨by rfl, ?_⟩) ?_ ?_
                              rotate_left
                              · intro w'
                                (try simp only [EQc61.out])
                                go_simp
                                with_reducible rfl
                              rotate_left
                              · simp only [Act.put, lsA, lsZ, lsS, i64_w, i32_w]
                                rfl
                              refine pure_ (i := 6) (N := some 67) (v := ?_) (a' := ?_) #[true, true, true, true, true, true, true, false, false, false, false, false, false, false, false, false, false, false, false, false, false, false, false] rfl rfl (any_of HT_.out (by kernel_rfl)) (fun _ _ _ h => h) (Or.inl ⟨by rfl, ?_⟩) ?_ ?_
                              rotate_left
                              · intro w'
                                (try simp only [EQc61.out])
                                go_simp
                                with_reducible rfl
                              rotate_left
                              · simp only [Act.put, lsA, lsZ, lsS, i64_w, i32_w]
                                rfl
                              refine pure_ (i := 7) (N := some 68) (v := ?_) (a' := ?_) #[true, true, true, true, true, true, true, true, false, false, false, false, false, false, false, false, false, false, false, false, false, false, false] rfl rfl (any_of HT_.out (by kernel_rfl)) (fun _ _ _ h => h) (Or.inl ⟨by rfl, ?_⟩) ?_ ?_
                              rotate_left
                              · intro w'
                                (try simp only [EQc61.out])
                                go_simp
                                with_reducible rfl
                              rotate_left
                              · simp only [Act.put, lsA, lsZ, lsS, i64_w, i32_w]
                                rfl
                              refine pure_ (i := 8) (N := some 69) (v := ?_) (a' := ?_) #[true, true, true, true, true, true, true, true, true, false, false, false, false, false, false, false, false, false, false, false, false, false, false] rfl rfl (any_of HT_.out (by kernel_rfl)) (fun _ _ _ h => h) (Or.inl ⟨by rfl, ?_⟩) ?_ ?_
                              rotate_left
                              · intro w'
                                (try simp only [EQc61.out])
                                go_simp
                                with_reducible rfl
                              rotate_left
                              · simp only [Act.put, lsA, lsZ, lsS, i64_w, i32_w]
                                rfl
                              refine pure_ (i := 9) (N := some 70) (v := ?_) (a' := ?_) #[true, true, true, true, true, true, true, true, true, true, false, false, false, false, false, false, false, false, false, false, false, false, false] rfl rfl (any_of HT_.out (by kernel_rfl)) (fun _ _ _ h => h) (Or.inl ⟨by rfl, ?_⟩) ?_ ?_
                              rotate_left
                              · intro w'
                                (try simp only [EQc61.out])
                                go_simp
                                with_reducible rfl
                              rotate_left
                              · simp only [Act.put, lsA, lsZ, lsS, i64_w, i32_w]
                                rfl
                              refine pure_ (i := 10) (N := some 71) (v := ?_) (a' := ?_) #[true, true, true, true, true, true, true, true, true, true, true, false, false, false, false, false, false, false, false, false, false, false, false] rfl rfl (any_of HT_.out (by kernel_rfl)) (fun _ _ _ h => h) (Or.inl ⟨by rfl, ?_⟩) ?_ ?_
                              rotate_left
                              · intro w'
                                (try simp only [EQc61.out])
                                go_simp
                                with_reducible rfl
                              rotate_left
                              · simp only [Act.put, lsA, lsZ, lsS, i64_w, i32_w]
                                rfl
                              refine pure_ (i := 12) (N := some 73) (v := ?_) (a' := ?_) #[true, true, true, true, true, true, true, true, true, true, true, false, true, false, false, false, false, false, false, false, false, false, false] rfl rfl (any_of HT_.out (by kernel_rfl)) (fun _ _ _ h => h) (Or.inl ⟨by rfl, ?_⟩) ?_ ?_
                              rotate_left
                              · intro w'
                                (try simp only [EQc61.out])
                                go_simp
                                with_reducible rfl
                              rotate_left
                              · simp only [Act.put, lsA, lsZ, lsS, i64_w, i32_w]
                                rfl
                              refine take_ (i := 11) (N := some 72) (v := ?_) (a' := ?_) #[true, true, true, true, true, true, true, true, true, true, true, true, true, false, false, false, false, false, false, false, false, false, false] rfl rfl (take_ofW HT_.out HW_.out (by kernel_rfl)) (fun _ _ _ h => h) (Or.inl ⟨by rfl, ?_⟩) hHeld ?_ ?_
                              rotate_left
                              · rintro w' ⟨s0, s1, s2, s3, s4, s5⟩
                                (try simp only [EQc61.out])
                                go_simp
                                with_reducible rfl
                              rotate_left
                              · simp only [Act.put, lsA, lsZ, lsS, i64_w, i32_w]
                                rfl
                              refine take_ (i := 13) (N := some 74) (v := ?_) (a' := ?_) #[true, true, true, true, true, true, true, true, true, true, true, true, true, true, false, false, false, false, false, false, false, false, false] rfl rfl (take_ofW HT_.out HW_.out (by kernel_rfl)) (fun _ _ _ h => h) (Or.inl ⟨by rfl, ?_⟩) hHeld ?_ ?_
                              rotate_left
                              · rintro w' ⟨s0, s1, s2, s3, s4, s5⟩
                                (try simp only [EQc61.out])
                                go_simp
                                with_reducible rfl
                              rotate_left
                              · simp only [Act.put, lsA, lsZ, lsS, i64_w, i32_w]
                                rfl
                              refine pure_ (i := 14) (N := some 75) (v := ?_) (a' := ?_) #[true, true, true, true, true, true, true, true, true, true, true, true, true, true, true, false, false, false, false, false, false, false, false] rfl rfl (any_of HT_.out (by kernel_rfl)) (fun _ _ _ h => h) (Or.inl ⟨by rfl, ?_⟩) ?_ ?_
                              rotate_left
                              · intro w'
                                (try simp only [EQc61.out])
                                go_simp
                                with_reducible rfl
                              rotate_left
                              · simp only [Act.put, lsA, lsZ, lsS, i64_w, i32_w]
                                rfl
                              refine pure_ (i := 15) (N := some 76) (v := ?_) (a' := ?_) #[true, true, true, true, true, true, true, true, true, true, true, true, true, true, true, true, false, false, false, false, false, false, false] rfl rfl (any_of HT_.out (by kernel_rfl)) (fun _ _ _ h => h) (Or.inl ⟨by rfl, ?_⟩) ?_ ?_
                              rotate_left
                              · intro w'
                                (try simp only [EQc61.out])
                                go_simp
                                with_reducible rfl
                              rotate_left
                              · simp only [Act.put, lsA, lsZ, lsS, i64_w, i32_w]
                                rfl
                              refine pure_ (i := 16) (N := some 77) (v := ?_) (a' := ?_) #[true, true, true, true, true, true, true, true, true, true, true, true, true, true, true, true, true, false, false, false, false, false, false] rfl rfl (any_of HT_.out (by kernel_rfl)) (fun _ _ _ h => h) (Or.inl ⟨by rfl, ?_⟩) ?_ ?_
                              rotate_left
                              · intro w'
                                (try simp only [EQc61.out])
                                go_simp
                                with_reducible rfl
                              rotate_left
                              · simp only [Act.put, lsA, lsZ, lsS, i64_w, i32_w]
                                rfl
                              refine pure_ (i := 17) (N := some 78) (v := undef) (a' := ?_) #[true, true, true, true, true, true, true, true, true, true, true, true, true, true, true, true, true, true, false, false, false, false, false] rfl rfl (any_of HT_.out (by kernel_rfl)) (fun _ _ _ h => h) (Or.inr ⟨by rfl, rfl⟩) ?_ ?_
                              rotate_left
                              · simp only [Act.put, lsA, lsZ, lsS, i64_w, i32_w]
                                rfl
                              refine pure_ (i := 18) (N := some 79) (v := undef) (a' := ?_) #[true, true, true, true, true, true, true, true, true, true, true, true, true, true, true, true, true, true, true, false, false, false, false] rfl rfl (any_of HT_.out (by kernel_rfl)) (fun _ _ _ h => h) (Or.inr ⟨by rfl, rfl⟩) ?_ ?_
                              rotate_left
                              · simp only [Act.put, lsA, lsZ, lsS, i64_w, i32_w]
                                rfl
                              refine pure_ (i := 19) (N := some 80) (v := undef) (a' := ?_) #[true, true, true, true, true, true, true, true, true, true, true, true, true, true, true, true, true, true, true, true, false, false, false] rfl rfl (any_of HT_.out (by kernel_rfl)) (fun _ _ _ h => h) (Or.inr ⟨by rfl, rfl⟩) ?_ ?_
                              rotate_left
                              · simp only [Act.put, lsA, lsZ, lsS, i64_w, i32_w]
                                rfl
                              refine pure_ (i := 20) (N := some 81) (v := undef) (a' := ?_) #[true, true, true, true, true, true, true, true, true, true, true, true, true, true, true, true, true, true, true, true, true, false, false] rfl rfl (any_of HT_.out (by kernel_rfl)) (fun _ _ _ h => h) (Or.inr ⟨by rfl, rfl⟩) ?_ ?_
                              rotate_left
                              · simp only [Act.put, lsA, lsZ, lsS, i64_w, i32_w]
                                rfl
                              refine pure_ (i := 21) (N := some 82) (v := undef) (a' := ?_) #[true, true, true, true, true, true, true, true, true, true, true, true, true, true, true, true, true, true, true, true, true, true, false] rfl rfl (any_of HT_.out (by kernel_rfl)) (fun _ _ _ h => h) (Or.inr ⟨by rfl, rfl⟩) ?_ ?_
                              rotate_left
                              · simp only [Act.put, lsA, lsZ, lsS, i64_w, i32_w]
                                rfl
                              refine pure_ (i := 22) (N := some 83) (v := ?_) (a' := ?_) #[true, true, true, true, true, true, true, true, true, true, true, true, true, true, true, true, true, true, true, true, true, true, true] rfl rfl (any_of HT_.out (by kernel_rfl)) (fun _ _ _ h => h) (Or.inl ⟨by rfl, ?_⟩) ?_ ?_
                              rotate_left
                              · intro w'
                                (try simp only [EQc61.out])
                                go_simp
                                with_reducible rfl
                              rotate_left
                              · simp only [Act.put, lsA, lsZ, lsS, i64_w, i32_w]
                                rfl
                              refine done_ (done_of HT_.out (by kernel_rfl)) ?_
                              try go_wp2
                              go_meet
                              case rel => exact ⟨_, (true), (by first | rfl | (simp; done) | (simp [*]; done)), H', ⟨by have := HK1.out; have := HK2.out; first | omega | exact Nat.le_refl _⟩, ⟨by (with_reducible repeat (first | apply Kd.R_alloc | apply Kd.R_drewN | apply Kd.R_drew)); exact HO_5.out⟩, ⟨by (with_reducible repeat (first | apply Kd.R_alloc | apply Kd.R_drewN | apply Kd.R_drew)); exact HO_10.out⟩, ⟨by (with_reducible repeat (first | apply Kd.R_alloc | apply Kd.R_drewN | apply Kd.R_drew)); exact HO_46.out⟩, ⟨by (with_reducible repeat (first | refine blk_drewN ?_ _ | refine blk_drew ?_ | refine blk_alloc ?_ _)); exact BK123.out⟩, ⟨by (with_reducible repeat (first | refine blk_drewN ?_ _ | refine blk_drew ?_ | refine blk_alloc ?_ _)); exact BK125.out⟩, ⟨by repeat (first | (with_reducible first | exact HB.out | apply bal | apply bdN | apply bd1 | refine below_set ?_ GE123.out | refine below_set ?_ GE125.out) | exact HB.out)⟩⟩
                            · rw [if_neg c72] at H
                              have c72b0 : (((rd_T54 t120 (ji70)).f0) == ((rd_T54 t120 x48_2).f0)) = false := beq_eq_false_iff_ne.mpr c72
                              have c72b1 : (((rd_T54 t120 (ji70)).f0) != ((rd_T54 t120 x48_2).f0)) = true := bne_iff_ne.mpr c72
                              replace H := Option.bind_eq_some_iff.mp H
                              obtain ⟨t133, A750, H⟩ := H
                              replace H : (span_combine.j4 pp k2 t120 x10_2 x12_2 x13_2 t120 (t120.length : Int) x48_2 (t133 == x12_2) x124000_2 (wrap64 (x124001_2 + ((rd_T54 t120 x48_2).f2))) ((rd_T54 t120 x48_2).f0) ((rd_T54 t120 x48_2).f1) ((rd_T54 t120 x48_2).f2)) = some r := H
                              have A75 := Az A750
                              clear A750
                              have H' := Az H
                              clear H
                              try go_wp2
                              have n0_ : Aside0 (Kd.R k54 54 (w67.setCell ⟨gb123, 1, none⟩ (.int .i64 (wrap64 (x124001_2 + ((rd_T54 t120 x48_2).f2))))) w.heap.size (fun k_ => k_ ≠ gb125) (.slice (some ad124) t120.length co27) t120) := ⟨by (with_reducible repeat (first | apply Kd.R_alloc | apply Kd.R_drewN | apply Kd.R_drew)); exact Kd.R_mono (Kd.R_far (p := ⟨gb123, 1, none⟩) (Kd.R_types HO_5.out BK123.out (by decide)) (fun _ hk => hk.2) (.int .i64 (wrap64 (x124001_2 + ((rd_T54 t120 x48_2).f2))))) (fun _ hk => hk.1)⟩
                              have n1_ : Aside0 (Kd.R k33 33 (w67.setCell ⟨gb123, 1, none⟩ (.int .i64 (wrap64 (x124001_2 + ((rd_T54 t120 x48_2).f2))))) w.heap.size (fun _ => True) u10 x10_2) := ⟨by (with_reducible repeat (first | apply Kd.R_alloc | apply Kd.R_drewN | apply Kd.R_drew)); exact Kd.R_mono (Kd.R_far (p := ⟨gb123, 1, none⟩) (Kd.R_types HO_10.out BK123.out (by decide)) (fun _ hk => hk.2) (.int .i64 (wrap64 (x124001_2 + ((rd_T54 t120 x48_2).f2))))) (fun _ hk => trivial)⟩
                              have n2_ : Aside0 (Kd.R k54 54 (w67.setCell ⟨gb123, 1, none⟩ (.int .i64 (wrap64 (x124001_2 + ((rd_T54 t120 x48_2).f2))))) w.heap.size (fun k_ => k_ ≠ gb125) (.slice (some ad124) t120.length co27) t120) := ⟨by (with_reducible repeat (first | apply Kd.R_alloc | apply Kd.R_drewN | apply Kd.R_drew)); exact Kd.R_mono (Kd.R_far (p := ⟨gb123, 1, none⟩) (Kd.R_types HO_46.out BK123.out (by decide)) (fun _ hk => hk.2) (.int .i64 (wrap64 (x124001_2 + ((rd_T54 t120 x48_2).f2))))) (fun _ hk => hk.1)⟩
                              have n3_ : Aside0 ((w67.setCell ⟨gb123, 1, none⟩ (.int .i64 (wrap64 (x124001_2 + ((rd_T54 t120 x48_2).f2))))).heap[gb123]? = some (.cells #[.int .i64 x124000_2, .int .i64 (wrap64 (x124001_2 + ((rd_T54 t120 x48_2).f2)))] 48 (0, 0))) := ⟨by (with_reducible repeat (first | refine blk_drewN ?_ _ | refine blk_drew ?_ | refine blk_alloc ?_ _)); refine blk_put (cs := #[.int .i64 x124000_2, .int .i64 x124001_2]) ?_ 1 _ rfl; (with_reducible repeat (first | refine blk_drewN ?_ _ | refine blk_drew ?_ | refine blk_alloc ?_ _)); exact BK123.out⟩
                              have n4_ : Aside0 ((w67.setCell ⟨gb123, 1, none⟩ (.int .i64 (wrap64 (x124001_2 + ((rd_T54 t120 x48_2).f2))))).heap[gb125]? = some (.cells #[.int .i64 ((rd_T54 t120 x48_2).f0), .int .i64 ((rd_T54 t120 x48_2).f1), .int .i64 ((rd_T54 t120 x48_2).f2)] 54 (0, 0))) := ⟨by (with_reducible repeat (first | refine blk_drewN ?_ _ | refine blk_drew ?_ | refine blk_alloc ?_ _)); refine blk_far ?_ NB125_123.out _; (with_reducible repeat (first | refine blk_drewN ?_ _ | refine blk_drew ?_ | refine blk_alloc ?_ _)); exact BK125.out⟩
                              have n5_ : Aside0 (Below w.heap.size w (w67.setCell ⟨gb123, 1, none⟩ (.int .i64 (wrap64 (x124001_2 + ((rd_T54 t120 x48_2).f2)))))) := ⟨by repeat (first | (with_reducible first | exact HB.out | apply bal | apply bdN | apply bd1 | refine below_set ?_ GE123.out | refine below_set ?_ GE125.out) | exact HB.out)⟩
                              (try clear HO_5)
                              (try clear HO_10)
                              (try clear HO_46)
                              (try clear BK123)
                              (try clear BK125)
                              (try clear HB)
                              generalize (w67.setCell ⟨gb123, 1, none⟩ (.int .i64 (wrap64 (x124001_2 + ((rd_T54 t120 x48_2).f2))))) = w76 at n0_ n1_ n2_ n3_ n4_ n5_ ⊢
                              have HO_5 := n0_
                              have HO_10 := n1_
                              have HO_46 := n2_
                              have BK123 := n3_
                              have BK125 := n4_
                              have HB := n5_
                              clear n0_ n1_ n2_ n3_ n4_ n5_
                              have n0_ := Az (Kd.R_drew HO_5.out)
                              have n1_ := Az (Kd.R_drew HO_10.out)
                              have n2_ := Az (Kd.R_drew HO_46.out)
                              have n3_ := Az (blk_drew BK123.out)
                              have n4_ := Az (blk_drew BK125.out)
                              have n5_ := Az (bd1 HB.out)
                              clear HO_5
                              clear HO_10
                              clear HO_46
                              clear BK123
                              clear BK125
                              clear HB
                              have HO_5 := n0_
                              have HO_10 := n1_
                              have HO_46 := n2_
                              have BK123 := n3_
                              have BK125 := n4_
                              have HB := n5_
                              clear n0_ n1_ n2_ n3_ n4_ n5_
                              have p132 : 0 ≤ ((ji70) : Int) := of_decide_eq_true (by first | (with_reducible assumption) | assumption)
                              have q132 : (ji70) < (t120.length : Int) := of_decide_eq_true (by first | (with_reducible assumption) | assumption)
                              obtain ⟨ad132, e132, hx132_0, hx132_1, hx132_2⟩ := at_T54 (Kd.R_reads' HO_5.out).2.2 (ji70) p132 q132
                              obtain rfl : ad124 = ad132 := (by injection e132)
                              replace p132 := eq_true p132
                              replace q132 := eq_true q132
                              refine start_ (n := 23) (S := fun w' => w'.cell? ⟨gb125, 0, none⟩ = some (.int .i64 ((rd_T54 t120 x48_2).f0)) ∧ w'.cell? ⟨gb125, 1, none⟩ = some (.int .i64 ((rd_T54 t120 x48_2).f1)) ∧ w'.cell? ⟨gb125, 2, none⟩ = some (.int .i64 ((rd_T54 t120 x48_2).f2)) ∧ w'.cell? ⟨gb123, 0, none⟩ = some (.int .i64 x124000_2) ∧ w'.cell? ⟨gb123, 1, none⟩ = some (.int .i64 (wrap64 (x124001_2 + ((rd_T54 t120 x48_2).f2)))) ∧ w'.cell? (ad124.add (((ji70)).toNat * 3)) = some (.int .i64 ((rd_T54 t120 (ji70)).f0)) ∧ w'.cell? ⟨(ad124.add (((ji70)).toNat * 3)).block, (ad124.add (((ji70)).toNat * 3)).off + 1, none⟩ = some (.int .i64 ((rd_T54 t120 (ji70)).f1)) ∧ w'.cell? ⟨(ad124.add (((ji70)).toNat * 3)).block, (ad124.add (((ji70)).toNat * 3)).off + 2, none⟩ = some (.int .i64 ((rd_T54 t120 (ji70)).f2))) (ds := []) #[false, false, false, false, false, false, false, false, false, false, false, false, false, false, false, false, false, false, false, false, false, false, false] (by kernel_rfl) rfl rfl ⟨(blk_cell BK125.out 0).trans rfl, (blk_cell BK125.out 1).trans rfl, (blk_cell BK125.out 2).trans rfl, (blk_cell BK123.out 0).trans rfl, (blk_cell BK123.out 1).trans rfl, hx132_0, hx132_1, hx132_2⟩ (fun hHeld => ?_); refine with_tabW span_combine.tab20 span_combine.bits20 (fun HT_ HW_ => ?_)
                              generalize w76.drew = w77 at HO_5 HO_10 HO_46 BK123 BK125 HB hx132_0 hx132_1 hx132_2 hHeld ⊢
                              refine pure_ (i := 0) (N := some 61) (v := ?_) (a' := ?_) #[true, false, false, false, false, false, false, false, false, false, false, false, false, false, false, false, false, false, false, false, false, false, false] rfl rfl (any_of HT_.out (by kernel_rfl)) (fun _ _ _ h => h) (Or.inl ⟨by rfl, ?_⟩) ?_ ?_
                              rotate_left
                              · intro w'
                                (try simp only [EQc61.out])
                                go_simp
                                with_reducible rfl
                              rotate_left
                              · simp only [Act.put, lsA, lsZ, lsS, i64_w, i32_w]
                                rfl
                              refine pure_ (i := 1) (N := some 62) (v := ?_) (a' := ?_) #[true, true, false, false, false, false, false, false, false, false, false, false, false, false, false, false, false, false, false, false, false, false, false] rfl rfl (any_of HT_.out (by kernel_rfl)) (fun _ _ _ h => h) (Or.inl ⟨by rfl, ?_⟩) ?_ ?_
                              rotate_left
                              · intro w'
                                (try simp only [EQc61.out])
                                go_simp
                                with_reducible rfl
                              rotate_left
                              · simp only [Act.put, lsA, lsZ, lsS, i64_w, i32_w]
                                rfl
                              refine pure_ (i := 2) (N := some 63) (v := ?_) (a' := ?_) #[true, true, true, false, false, false, false, false, false, false, false, false, false, false, false, false, false, false, false, false, false, false, false] rfl rfl (any_of HT_.out (by kernel_rfl)) (fun _ _ _ h => h) (Or.inl ⟨by rfl, ?_⟩) ?_ ?_
                              rotate_left
                              · intro w'
                                (try simp only [EQc61.out])
                                go_simp
                                with_reducible rfl
                              rotate_left
                              · simp only [Act.put, lsA, lsZ, lsS, i64_w, i32_w]
                                rfl
                              refine pure_ (i := 3) (N := some 64) (v := ?_) (a' := ?_) #[true, true, true, true, false, false, false, false, false, false, false, false, false, false, false, false, false, false, false, false, false, false, false] rfl rfl (any_of HT_.out (by kernel_rfl)) (fun _ _ _ h => h) (Or.inl ⟨by rfl, ?_⟩) ?_ ?_
                              rotate_left
                              · intro w'
                                (try simp only [EQc61.out])
                                go_simp
                                with_reducible rfl
                              rotate_left
                              · simp only [Act.put, lsA, lsZ, lsS, i64_w, i32_w]
                                rfl
                              refine pure_ (i := 4) (N := some 65) (v := ?_) (a' := ?_) #[true, true, true, true, true, false, false, false, false, false, false, false, false, false, false, false, false, false, false, false, false, false, false] rfl rfl (any_of HT_.out (by kernel_rfl)) (fun _ _ _ h => h) (Or.inl ⟨by rfl, ?_⟩) ?_ ?_
                              rotate_left
                              · intro w'
                                (try simp only [EQc61.out])
                                go_simp
                                with_reducible rfl
                              rotate_left
                              · simp only [Act.put, lsA, lsZ, lsS, i64_w, i32_w]
                                rfl
                              refine pure_ (i := 5) (N := some 66) (v := ?_) (a' := ?_) #[true, true, true, true, true, true, false, false, false, false, false, false, false, false, false, false, false, false, false, false, false, false, false] rfl rfl (any_of HT_.out (by kernel_rfl)) (fun _ _ _ h => h) (Or.inl ⟨by rfl, ?_⟩) ?_ ?_
                              rotate_left
                              · intro w'
                                (try simp only [EQc61.out])
                                go_simp
                                with_reducible rfl
                              rotate_left
                              · simp only [Act.put, lsA, lsZ, lsS, i64_w, i32_w]
                                rfl
                              refine pure_ (i := 6) (N := some 67) (v := ?_) (a' := ?_) #[true, true, true, true, true, true, true, false, false, false, false, false, false, false, false, false, false, false, false, false, false, false, false] rfl rfl (any_of HT_.out (by kernel_rfl)) (fun _ _ _ h => h) (Or.inl ⟨by rfl, ?_⟩) ?_ ?_
                              rotate_left
                              · intro w'
                                (try simp only [EQc61.out])
                                go_simp
                                with_reducible rfl
                              rotate_left
                              · simp only [Act.put, lsA, lsZ, lsS, i64_w, i32_w]
                                rfl
                              refine pure_ (i := 7) (N := some 68) (v := ?_) (a' := ?_) #[true, true, true, true, true, true, true, true, false, false, false, false, false, false, false, false, false, false, false, false, false, false, false] rfl rfl (any_of HT_.out (by kernel_rfl)) (fun _ _ _ h => h) (Or.inl ⟨by rfl, ?_⟩) ?_ ?_
                              rotate_left
                              · intro w'
                                (try simp only [EQc61.out])
                                go_simp
                                with_reducible rfl
                              rotate_left
                              · simp only [Act.put, lsA, lsZ, lsS, i64_w, i32_w]
                                rfl
                              refine pure_ (i := 8) (N := some 69) (v := ?_) (a' := ?_) #[true, true, true, true, true, true, true, true, true, false, false, false, false, false, false, false, false, false, false, false, false, false, false] rfl rfl (any_of HT_.out (by kernel_rfl)) (fun _ _ _ h => h) (Or.inl ⟨by rfl, ?_⟩) ?_ ?_
                              rotate_left
                              · intro w'
                                (try simp only [EQc61.out])
                                go_simp
                                with_reducible rfl
                              rotate_left
                              · simp only [Act.put, lsA, lsZ, lsS, i64_w, i32_w]
                                rfl
                              refine pure_ (i := 9) (N := some 70) (v := ?_) (a' := ?_) #[true, true, true, true, true, true, true, true, true, true, false, false, false, false, false, false, false, false, false, false, false, false, false] rfl rfl (any_of HT_.out (by kernel_rfl)) (fun _ _ _ h => h) (Or.inl ⟨by rfl, ?_⟩) ?_ ?_
                              rotate_left
                              · intro w'
                                (try simp only [EQc61.out])
                                go_simp
                                with_reducible rfl
                              rotate_left
                              · simp only [Act.put, lsA, lsZ, lsS, i64_w, i32_w]
                                rfl
                              refine pure_ (i := 10) (N := some 71) (v := ?_) (a' := ?_) #[true, true, true, true, true, true, true, true, true, true, true, false, false, false, false, false, false, false, false, false, false, false, false] rfl rfl (any_of HT_.out (by kernel_rfl)) (fun _ _ _ h => h) (Or.inl ⟨by rfl, ?_⟩) ?_ ?_
                              rotate_left
                              · intro w'
                                (try simp only [EQc61.out])
                                go_simp
                                with_reducible rfl
                              rotate_left
                              · simp only [Act.put, lsA, lsZ, lsS, i64_w, i32_w]
                                rfl
                              refine pure_ (i := 12) (N := some 73) (v := ?_) (a' := ?_) #[true, true, true, true, true, true, true, true, true, true, true, false, true, false, false, false, false, false, false, false, false, false, false] rfl rfl (any_of HT_.out (by kernel_rfl)) (fun _ _ _ h => h) (Or.inl ⟨by rfl, ?_⟩) ?_ ?_
                              rotate_left
                              · intro w'
                                (try simp only [EQc61.out])
                                go_simp
                                with_reducible rfl
                              rotate_left
                              · simp only [Act.put, lsA, lsZ, lsS, i64_w, i32_w]
                                rfl
                              refine take_ (i := 11) (N := some 72) (v := ?_) (a' := ?_) #[true, true, true, true, true, true, true, true, true, true, true, true, true, false, false, false, false, false, false, false, false, false, false] rfl rfl (take_ofW HT_.out HW_.out (by kernel_rfl)) (fun _ _ _ h => h) (Or.inl ⟨by rfl, ?_⟩) hHeld ?_ ?_
                              rotate_left
                              · rintro w' ⟨s0, s1, s2, s3, s4, s5, s6, s7⟩
                                (try simp only [EQc61.out])
                                go_simp
                                with_reducible rfl
                              rotate_left
                              · simp only [Act.put, lsA, lsZ, lsS, i64_w, i32_w]
                                rfl
                              refine take_ (i := 13) (N := some 74) (v := ?_) (a' := ?_) #[true, true, true, true, true, true, true, true, true, true, true, true, true, true, false, false, false, false, false, false, false, false, false] rfl rfl (take_ofW HT_.out HW_.out (by kernel_rfl)) (fun _ _ _ h => h) (Or.inl ⟨by rfl, ?_⟩) hHeld ?_ ?_
                              rotate_left
                              · rintro w' ⟨s0, s1, s2, s3, s4, s5, s6, s7⟩
                                (try simp only [EQc61.out])
                                go_simp
                                with_reducible rfl
                              rotate_left
                              · simp only [Act.put, lsA, lsZ, lsS, i64_w, i32_w]
                                rfl
                              refine pure_ (i := 14) (N := some 75) (v := ?_) (a' := ?_) #[true, true, true, true, true, true, true, true, true, true, true, true, true, true, true, false, false, false, false, false, false, false, false] rfl rfl (any_of HT_.out (by kernel_rfl)) (fun _ _ _ h => h) (Or.inl ⟨by rfl, ?_⟩) ?_ ?_
                              rotate_left
                              · intro w'
                                (try simp only [EQc61.out])
                                go_simp
                                with_reducible rfl
                              rotate_left
                              · simp only [Act.put, lsA, lsZ, lsS, i64_w, i32_w]
                                rfl
                              refine pure_ (i := 15) (N := some 76) (v := ?_) (a' := ?_) #[true, true, true, true, true, true, true, true, true, true, true, true, true, true, true, true, false, false, false, false, false, false, false] rfl rfl (any_of HT_.out (by kernel_rfl)) (fun _ _ _ h => h) (Or.inl ⟨by rfl, ?_⟩) ?_ ?_
                              rotate_left
                              · intro w'
                                (try simp only [EQc61.out])
                                go_simp
                                with_reducible rfl
                              rotate_left
                              · simp only [Act.put, lsA, lsZ, lsS, i64_w, i32_w]
                                rfl
                              refine pure_ (i := 16) (N := some 77) (v := ?_) (a' := ?_) #[true, true, true, true, true, true, true, true, true, true, true, true, true, true, true, true, true, false, false, false, false, false, false] rfl rfl (any_of HT_.out (by kernel_rfl)) (fun _ _ _ h => h) (Or.inl ⟨by rfl, ?_⟩) ?_ ?_
                              rotate_left
                              · intro w'
                                (try simp only [EQc61.out])
                                go_simp
                                with_reducible rfl
                              rotate_left
                              · simp only [Act.put, lsA, lsZ, lsS, i64_w, i32_w]
                                rfl
                              refine pure_ (i := 17) (N := some 78) (v := ?_) (a' := ?_) #[true, true, true, true, true, true, true, true, true, true, true, true, true, true, true, true, true, true, false, false, false, false, false] rfl rfl (any_of HT_.out (by kernel_rfl)) (fun _ _ _ h => h) (Or.inl ⟨by rfl, ?_⟩) ?_ ?_
                              rotate_left
                              · intro w'
                                (try simp only [EQc61.out])
                                go_simp
                                with_reducible rfl
                              rotate_left
                              · simp only [Act.put, lsA, lsZ, lsS, i64_w, i32_w]
                                rfl
                              refine pure_ (i := 20) (N := some 81) (v := ?_) (a' := ?_) #[true, true, true, true, true, true, true, true, true, true, true, true, true, true, true, true, true, true, false, false, true, false, false] rfl rfl (any_of HT_.out (by kernel_rfl)) (fun _ _ _ h => h) (Or.inl ⟨by rfl, ?_⟩) ?_ ?_
                              rotate_left
                              · intro w'
                                (try simp only [EQc61.out])
                                go_simp
                                with_reducible rfl
                              rotate_left
                              · simp only [Act.put, lsA, lsZ, lsS, i64_w, i32_w]
                                rfl
                              refine take_ (i := 18) (N := some 79) (v := ?_) (a' := ?_) #[true, true, true, true, true, true, true, true, true, true, true, true, true, true, true, true, true, true, true, false, true, false, false] rfl rfl (take_ofW HT_.out HW_.out (by kernel_rfl)) (fun _ _ _ h => h) (Or.inl ⟨by rfl, ?_⟩) hHeld ?_ ?_
                              rotate_left
                              · rintro w' ⟨s0, s1, s2, s3, s4, s5, s6, s7⟩
                                (try simp only [EQc61.out])
                                go_simp
                                with_reducible rfl
                              rotate_left
                              · simp only [Act.put, lsA, lsZ, lsS, i64_w, i32_w]
                                rfl
                              refine one_ (i := 19) (N := some 80) #[true, true, true, true, true, true, true, true, true, true, true, true, true, true, true, true, true, true, true, true, true, false, false] rfl rfl (one_of HT_.out (by kernel_rfl)) (by decide) (fun K hK => ?_)
                              refine goesT_ 78 hcl.hf hcl.hname hcl.hb #[.agg #[.int .i64 x124000_2, .int .i64 (wrap64 (x124001_2 + ((rd_T54 t120 x48_2).f2)))]] (by rfl) rfl rfl rfl (by (try simp only [List.map_toArray, List.map_cons, List.map_nil]); first | done | rfl) ?_
                              with_reducible refine (hcl.hc x124000_2 (wrap64 (x124001_2 + ((rd_T54 t120 x48_2).f2))) t133 _ A75.out).mono ?_
                              rintro e w78 ⟨rfl, hb⟩
                              have HS5_ := (hb.cell (World.block_lt_of_cell? _ _ (hHeld.2.2.2.2.2.1))).trans (hHeld.2.2.2.2.2.1)
                              have HS6_ := (hb.cell (World.block_lt_of_cell? _ _ (hHeld.2.2.2.2.2.2.1))).trans (hHeld.2.2.2.2.2.2.1)
                              have HS7_ := (hb.cell (World.block_lt_of_cell? _ _ (hHeld.2.2.2.2.2.2.2))).trans (hHeld.2.2.2.2.2.2.2)
                              refine ⟨_, rfl, ?_⟩
                              have n0_ := Az (Kd.R_below (by (with_reducible repeat (first | apply Kd.R_alloc | apply Kd.R_drewN | apply Kd.R_drew)); exact HO_5.out) hb)
                              have n1_ := Az (Kd.R_below (by (with_reducible repeat (first | apply Kd.R_alloc | apply Kd.R_drewN | apply Kd.R_drew)); exact HO_10.out) hb)
                              have n2_ := Az (Kd.R_below (by (with_reducible repeat (first | apply Kd.R_alloc | apply Kd.R_drewN | apply Kd.R_drew)); exact HO_46.out) hb)
                              have n3_ := Az (blk_below (g := gb123) (o := .cells #[.int .i64 x124000_2, .int .i64 (wrap64 (x124001_2 + ((rd_T54 t120 x48_2).f2)))] 48 (0, 0)) (by (with_reducible repeat (first | refine blk_drewN ?_ _ | refine blk_drew ?_ | refine blk_alloc ?_ _)); exact BK123.out) hb)
                              have n4_ := Az (blk_below (g := gb125) (o := .cells #[.int .i64 ((rd_T54 t120 x48_2).f0), .int .i64 ((rd_T54 t120 x48_2).f1), .int .i64 ((rd_T54 t120 x48_2).f2)] 54 (0, 0)) (by (with_reducible repeat (first | refine blk_drewN ?_ _ | refine blk_drew ?_ | refine blk_alloc ?_ _)); exact BK125.out) hb)
                              have n5_ := Az (below_step (by repeat (first | (with_reducible first | exact HB.out | apply bal | apply bdN | apply bd1 | refine below_set ?_ GE123.out | refine below_set ?_ GE125.out) | exact HB.out)) hb)
                              clear HO_5
                              clear HO_10
                              clear HO_46
                              clear BK123
                              clear BK125
                              clear HB
                              have HO_5 := n0_
                              have HO_10 := n1_
                              have HO_46 := n2_
                              have BK123 := n3_
                              have BK125 := n4_
                              have HB := n5_
                              clear n0_ n1_ n2_ n3_ n4_ n5_
                              (try clear hb)
                              (try clear hb2)
                              (try clear hk)
                              (try clear hi)
                              refine hK.out _ _ ⟨(blk_cell BK125.out 0).trans rfl, (blk_cell BK125.out 1).trans rfl, (blk_cell BK125.out 2).trans rfl, (blk_cell BK123.out 0).trans rfl, (blk_cell BK123.out 1).trans rfl, HS5_, HS6_, HS7_⟩ (fun hHeld => ?_)
                              clear hK K
                              refine norm_ (a' := ?_) ?_ ?_
                              rotate_left
                              · show Act.put _ (some 80) _ = _
                                simp only [Act.put, lsA, lsZ, lsS, i64_w, i32_w]
                                rfl
                              refine pure_ (i := 21) (N := some 82) (v := ?_) (a' := ?_) #[true, true, true, true, true, true, true, true, true, true, true, true, true, true, true, true, true, true, true, true, true, true, false] rfl rfl (any_of HT_.out (by kernel_rfl)) (fun _ _ _ h => h) (Or.inl ⟨by rfl, ?_⟩) ?_ ?_
                              rotate_left
                              · intro w'
                                (try simp only [EQc61.out])
                                go_simp
                                with_reducible rfl
                              rotate_left
                              · simp only [Act.put, lsA, lsZ, lsS, i64_w, i32_w]
                                rfl
                              refine pure_ (i := 22) (N := some 83) (v := ?_) (a' := ?_) #[true, true, true, true, true, true, true, true, true, true, true, true, true, true, true, true, true, true, true, true, true, true, true] rfl rfl (any_of HT_.out (by kernel_rfl)) (fun _ _ _ h => h) (Or.inl ⟨by rfl, ?_⟩) ?_ ?_
                              rotate_left
                              · intro w'
                                (try simp only [EQc61.out])
                                go_simp
                                with_reducible rfl
                              rotate_left
                              · simp only [Act.put, lsA, lsZ, lsS, i64_w, i32_w]
                                rfl
                              refine done_ (done_of HT_.out (by kernel_rfl)) ?_
                              try go_wp2
                              go_meet
                              case rel => exact ⟨_, ((t133 == x12_2)), (by first | rfl | (simp; done) | (simp [*]; done)), H', ⟨by have := HK1.out; have := HK2.out; first | omega | exact Nat.le_refl _⟩, ⟨by (with_reducible repeat (first | apply Kd.R_alloc | apply Kd.R_drewN | apply Kd.R_drew)); exact HO_5.out⟩, ⟨by (with_reducible repeat (first | apply Kd.R_alloc | apply Kd.R_drewN | apply Kd.R_drew)); exact HO_10.out⟩, ⟨by (with_reducible repeat (first | apply Kd.R_alloc | apply Kd.R_drewN | apply Kd.R_drew)); exact HO_46.out⟩, ⟨by (with_reducible repeat (first | refine blk_drewN ?_ _ | refine blk_drew ?_ | refine blk_alloc ?_ _)); exact BK123.out⟩, ⟨by (with_reducible repeat (first | refine blk_drewN ?_ _ | refine blk_drew ?_ | refine blk_alloc ?_ _)); exact BK125.out⟩, ⟨by repeat (first | (with_reducible first | exact HB.out | apply bal | apply bdN | apply bd1 | refine below_set ?_ GE123.out | refine below_set ?_ GE125.out) | exact HB.out)⟩⟩
                          · rw [if_neg c71] at H
                            exact absurd H (by simp)
                        · rw [if_neg c69] at H
                          have c69b0 : decide ((wrap64 (x48_2 + 1)) < (t120.length : Int)) = false := decide_eq_false c69
                          clear c69
                          (first | rw [c69b0] | (simp only [i64_w, i32_w]; rw [c69b0]) | rw [c69b1] | skip)
                          replace H := Option.bind_eq_some_iff.mp H
                          obtain ⟨t134, A790, H⟩ := H
                          replace H : (span_combine.j4 pp k2 t120 x10_2 x12_2 x13_2 t120 (t120.length : Int) x48_2 (t134 == x12_2) x124000_2 (wrap64 (x124001_2 + ((rd_T54 t120 x48_2).f2))) ((rd_T54 t120 x48_2).f0) ((rd_T54 t120 x48_2).f1) ((rd_T54 t120 x48_2).f2)) = some r := H
                          have A79 := Az A790
                          clear A790
                          have H' := Az H
                          clear H
                          try go_wp2
                          have n0_ : Aside0 (Kd.R k54 54 (w67.setCell ⟨gb123, 1, none⟩ (.int .i64 (wrap64 (x124001_2 + ((rd_T54 t120 x48_2).f2))))) w.heap.size (fun k_ => k_ ≠ gb125) (.slice (some ad124) t120.length co27) t120) := ⟨by (with_reducible repeat (first | apply Kd.R_alloc | apply Kd.R_drewN | apply Kd.R_drew)); exact Kd.R_mono (Kd.R_far (p := ⟨gb123, 1, none⟩) (Kd.R_types HO_5.out BK123.out (by decide)) (fun _ hk => hk.2) (.int .i64 (wrap64 (x124001_2 + ((rd_T54 t120 x48_2).f2))))) (fun _ hk => hk.1)⟩
                          have n1_ : Aside0 (Kd.R k33 33 (w67.setCell ⟨gb123, 1, none⟩ (.int .i64 (wrap64 (x124001_2 + ((rd_T54 t120 x48_2).f2))))) w.heap.size (fun _ => True) u10 x10_2) := ⟨by (with_reducible repeat (first | apply Kd.R_alloc | apply Kd.R_drewN | apply Kd.R_drew)); exact Kd.R_mono (Kd.R_far (p := ⟨gb123, 1, none⟩) (Kd.R_types HO_10.out BK123.out (by decide)) (fun _ hk => hk.2) (.int .i64 (wrap64 (x124001_2 + ((rd_T54 t120 x48_2).f2))))) (fun _ hk => trivial)⟩
                          have n2_ : Aside0 (Kd.R k54 54 (w67.setCell ⟨gb123, 1, none⟩ (.int .i64 (wrap64 (x124001_2 + ((rd_T54 t120 x48_2).f2))))) w.heap.size (fun k_ => k_ ≠ gb125) (.slice (some ad124) t120.length co27) t120) := ⟨by (with_reducible repeat (first | apply Kd.R_alloc | apply Kd.R_drewN | apply Kd.R_drew)); exact Kd.R_mono (Kd.R_far (p := ⟨gb123, 1, none⟩) (Kd.R_types HO_46.out BK123.out (by decide)) (fun _ hk => hk.2) (.int .i64 (wrap64 (x124001_2 + ((rd_T54 t120 x48_2).f2))))) (fun _ hk => hk.1)⟩
                          have n3_ : Aside0 ((w67.setCell ⟨gb123, 1, none⟩ (.int .i64 (wrap64 (x124001_2 + ((rd_T54 t120 x48_2).f2))))).heap[gb123]? = some (.cells #[.int .i64 x124000_2, .int .i64 (wrap64 (x124001_2 + ((rd_T54 t120 x48_2).f2)))] 48 (0, 0))) := ⟨by (with_reducible repeat (first | refine blk_drewN ?_ _ | refine blk_drew ?_ | refine blk_alloc ?_ _)); refine blk_put (cs := #[.int .i64 x124000_2, .int .i64 x124001_2]) ?_ 1 _ rfl; (with_reducible repeat (first | refine blk_drewN ?_ _ | refine blk_drew ?_ | refine blk_alloc ?_ _)); exact BK123.out⟩
                          have n4_ : Aside0 ((w67.setCell ⟨gb123, 1, none⟩ (.int .i64 (wrap64 (x124001_2 + ((rd_T54 t120 x48_2).f2))))).heap[gb125]? = some (.cells #[.int .i64 ((rd_T54 t120 x48_2).f0), .int .i64 ((rd_T54 t120 x48_2).f1), .int .i64 ((rd_T54 t120 x48_2).f2)] 54 (0, 0))) := ⟨by (with_reducible repeat (first | refine blk_drewN ?_ _ | refine blk_drew ?_ | refine blk_alloc ?_ _)); refine blk_far ?_ NB125_123.out _; (with_reducible repeat (first | refine blk_drewN ?_ _ | refine blk_drew ?_ | refine blk_alloc ?_ _)); exact BK125.out⟩
                          have n5_ : Aside0 (Below w.heap.size w (w67.setCell ⟨gb123, 1, none⟩ (.int .i64 (wrap64 (x124001_2 + ((rd_T54 t120 x48_2).f2)))))) := ⟨by repeat (first | (with_reducible first | exact HB.out | apply bal | apply bdN | apply bd1 | refine below_set ?_ GE123.out | refine below_set ?_ GE125.out) | exact HB.out)⟩
                          (try clear HO_5)
                          (try clear HO_10)
                          (try clear HO_46)
                          (try clear BK123)
                          (try clear BK125)
                          (try clear HB)
                          generalize (w67.setCell ⟨gb123, 1, none⟩ (.int .i64 (wrap64 (x124001_2 + ((rd_T54 t120 x48_2).f2))))) = w80 at n0_ n1_ n2_ n3_ n4_ n5_ ⊢
                          have HO_5 := n0_
                          have HO_10 := n1_
                          have HO_46 := n2_
                          have BK123 := n3_
                          have BK125 := n4_
                          have HB := n5_
                          clear n0_ n1_ n2_ n3_ n4_ n5_
                          have n0_ := Az (Kd.R_drew HO_5.out)
                          have n1_ := Az (Kd.R_drew HO_10.out)
                          have n2_ := Az (Kd.R_drew HO_46.out)
                          have n3_ := Az (blk_drew BK123.out)
                          have n4_ := Az (blk_drew BK125.out)
                          have n5_ := Az (bd1 HB.out)
                          clear HO_5
                          clear HO_10
                          clear HO_46
                          clear BK123
                          clear BK125
                          clear HB
                          have HO_5 := n0_
                          have HO_10 := n1_
                          have HO_46 := n2_
                          have BK123 := n3_
                          have BK125 := n4_
                          have HB := n5_
                          clear n0_ n1_ n2_ n3_ n4_ n5_
                          refine start_ (n := 23) (S := fun w' => w'.cell? ⟨gb123, 0, none⟩ = some (.int .i64 x124000_2) ∧ w'.cell? ⟨gb123, 1, none⟩ = some (.int .i64 (wrap64 (x124001_2 + ((rd_T54 t120 x48_2).f2))))) (ds := []) #[false, false, false, false, false, false, false, false, false, false, false, false, false, false, false, false, false, false, false, false, false, false, false] (by kernel_rfl) rfl rfl ⟨(blk_cell BK123.out 0).trans rfl, (blk_cell BK123.out 1).trans rfl⟩ (fun hHeld => ?_); refine with_tabW span_combine.tab20 span_combine.bits20 (fun HT_ HW_ => ?_)
                          generalize w80.drew = w81 at HO_5 HO_10 HO_46 BK123 BK125 HB hHeld ⊢
                          refine pure_ (i := 0) (N := some 61) (v := ?_) (a' := ?_) #[true, false, false, false, false, false, false, false, false, false, false, false, false, false, false, false, false, false, false, false, false, false, false] rfl rfl (any_of HT_.out (by kernel_rfl)) (fun _ _ _ h => h) (Or.inl ⟨by rfl, ?_⟩) ?_ ?_
                          rotate_left
                          · intro w'
                            (try simp only [EQc61.out])
                            go_simp
                            with_reducible rfl
                          rotate_left
                          · simp only [Act.put, lsA, lsZ, lsS, i64_w, i32_w]
                            rfl
                          refine pure_ (i := 1) (N := some 62) (v := ?_) (a' := ?_) #[true, true, false, false, false, false, false, false, false, false, false, false, false, false, false, false, false, false, false, false, false, false, false] rfl rfl (any_of HT_.out (by kernel_rfl)) (fun _ _ _ h => h) (Or.inl ⟨by rfl, ?_⟩) ?_ ?_
                          rotate_left
                          · intro w'
                            (try simp only [EQc61.out])
                            go_simp
                            with_reducible rfl
                          rotate_left
                          · simp only [Act.put, lsA, lsZ, lsS, i64_w, i32_w]
                            rfl
                          refine pure_ (i := 2) (N := some 63) (v := ?_) (a' := ?_) #[true, true, true, false, false, false, false, false, false, false, false, false, false, false, false, false, false, false, false, false, false, false, false] rfl rfl (any_of HT_.out (by kernel_rfl)) (fun _ _ _ h => h) (Or.inl ⟨by rfl, ?_⟩) ?_ ?_
                          rotate_left
                          · intro w'
                            (try simp only [EQc61.out])
                            go_simp
                            with_reducible rfl
                          rotate_left
                          · simp only [Act.put, lsA, lsZ, lsS, i64_w, i32_w]
                            rfl
                          refine pure_ (i := 3) (N := some 64) (v := ?_) (a' := ?_) #[true, true, true, true, false, false, false, false, false, false, false, false, false, false, false, false, false, false, false, false, false, false, false] rfl rfl (any_of HT_.out (by kernel_rfl)) (fun _ _ _ h => h) (Or.inl ⟨by rfl, ?_⟩) ?_ ?_
                          rotate_left
                          · intro w'
                            (try simp only [EQc61.out])
                            go_simp
                            with_reducible rfl
                          rotate_left
                          · simp only [Act.put, lsA, lsZ, lsS, i64_w, i32_w]
                            rfl
                          refine pure_ (i := 4) (N := some 65) (v := ?_) (a' := ?_) #[true, true, true, true, true, false, false, false, false, false, false, false, false, false, false, false, false, false, false, false, false, false, false] rfl rfl (any_of HT_.out (by kernel_rfl)) (fun _ _ _ h => h) (Or.inl ⟨by rfl, ?_⟩) ?_ ?_
                          rotate_left
                          · intro w'
                            (try simp only [EQc61.out])
                            go_simp
                            with_reducible rfl
                          rotate_left
                          · simp only [Act.put, lsA, lsZ, lsS, i64_w, i32_w]
                            rfl
                          refine pure_ (i := 5) (N := some 66) (v := ?_) (a' := ?_) #[true, true, true, true, true, true, false, false, false, false, false, false, false, false, false, false, false, false, false, false, false, false, false] rfl rfl (any_of HT_.out (by kernel_rfl)) (fun _ _ _ h => h) (Or.inl ⟨by rfl, ?_⟩) ?_ ?_
                          rotate_left
                          · intro w'
                            (try simp only [EQc61.out])
                            go_simp
                            with_reducible rfl
                          rotate_left
                          · simp only [Act.put, lsA, lsZ, lsS, i64_w, i32_w]
                            rfl
                          refine pure_ (i := 6) (N := some 67) (v := undef) (a' := ?_) #[true, true, true, true, true, true, true, false, false, false, false, false, false, false, false, false, false, false, false, false, false, false, false] rfl rfl (any_of HT_.out (by kernel_rfl)) (fun _ _ _ h => h) (Or.inr ⟨by rfl, rfl⟩) ?_ ?_
                          rotate_left
                          · simp only [Act.put, lsA, lsZ, lsS, i64_w, i32_w]
                            rfl
                          refine pure_ (i := 7) (N := some 68) (v := undef) (a' := ?_) #[true, true, true, true, true, true, true, true, false, false, false, false, false, false, false, false, false, false, false, false, false, false, false] rfl rfl (any_of HT_.out (by kernel_rfl)) (fun _ _ _ h => h) (Or.inr ⟨by rfl, rfl⟩) ?_ ?_
                          rotate_left
                          · simp only [Act.put, lsA, lsZ, lsS, i64_w, i32_w]
                            rfl
                          refine pure_ (i := 8) (N := some 69) (v := undef) (a' := ?_) #[true, true, true, true, true, true, true, true, true, false, false, false, false, false, false, false, false, false, false, false, false, false, false] rfl rfl (any_of HT_.out (by kernel_rfl)) (fun _ _ _ h => h) (Or.inr ⟨by rfl, rfl⟩) ?_ ?_
                          rotate_left
                          · simp only [Act.put, lsA, lsZ, lsS, i64_w, i32_w]
                            rfl
                          refine pure_ (i := 9) (N := some 70) (v := undef) (a' := ?_) #[true, true, true, true, true, true, true, true, true, true, false, false, false, false, false, false, false, false, false, false, false, false, false] rfl rfl (any_of HT_.out (by kernel_rfl)) (fun _ _ _ h => h) (Or.inr ⟨by rfl, rfl⟩) ?_ ?_
                          rotate_left
                          · simp only [Act.put, lsA, lsZ, lsS, i64_w, i32_w]
                            rfl
                          refine pure_ (i := 10) (N := some 71) (v := undef) (a' := ?_) #[true, true, true, true, true, true, true, true, true, true, true, false, false, false, false, false, false, false, false, false, false, false, false] rfl rfl (any_of HT_.out (by kernel_rfl)) (fun _ _ _ h => h) (Or.inr ⟨by rfl, rfl⟩) ?_ ?_
                          rotate_left
                          · simp only [Act.put, lsA, lsZ, lsS, i64_w, i32_w]
                            rfl
                          refine pure_ (i := 11) (N := some 72) (v := undef) (a' := ?_) #[true, true, true, true, true, true, true, true, true, true, true, true, false, false, false, false, false, false, false, false, false, false, false] rfl rfl (any_of HT_.out (by kernel_rfl)) (fun _ _ _ h => h) (Or.inr ⟨by rfl, rfl⟩) ?_ ?_
                          rotate_left
                          · simp only [Act.put, lsA, lsZ, lsS, i64_w, i32_w]
                            rfl
                          refine pure_ (i := 12) (N := some 73) (v := undef) (a' := ?_) #[true, true, true, true, true, true, true, true, true, true, true, true, true, false, false, false, false, false, false, false, false, false, false] rfl rfl (any_of HT_.out (by kernel_rfl)) (fun _ _ _ h => h) (Or.inr ⟨by rfl, rfl⟩) ?_ ?_
                          rotate_left
                          · simp only [Act.put, lsA, lsZ, lsS, i64_w, i32_w]
                            rfl
                          refine pure_ (i := 13) (N := some 74) (v := undef) (a' := ?_) #[true, true, true, true, true, true, true, true, true, true, true, true, true, true, false, false, false, false, false, false, false, false, false] rfl rfl (any_of HT_.out (by kernel_rfl)) (fun _ _ _ h => h) (Or.inr ⟨by rfl, rfl⟩) ?_ ?_
                          rotate_left
                          · simp only [Act.put, lsA, lsZ, lsS, i64_w, i32_w]
                            rfl
                          refine pure_ (i := 14) (N := some 75) (v := undef) (a' := ?_) #[true, true, true, true, true, true, true, true, true, true, true, true, true, true, true, false, false, false, false, false, false, false, false] rfl rfl (any_of HT_.out (by kernel_rfl)) (fun _ _ _ h => h) (Or.inr ⟨by rfl, rfl⟩) ?_ ?_
                          rotate_left
                          · simp only [Act.put, lsA, lsZ, lsS, i64_w, i32_w]
                            rfl
                          refine pure_ (i := 15) (N := some 76) (v := ?_) (a' := ?_) #[true, true, true, true, true, true, true, true, true, true, true, true, true, true, true, true, false, false, false, false, false, false, false] rfl rfl (any_of HT_.out (by kernel_rfl)) (fun _ _ _ h => h) (Or.inl ⟨by rfl, ?_⟩) ?_ ?_
                          rotate_left
                          · intro w'
                            (try simp only [EQc61.out])
                            go_simp
                            with_reducible rfl
                          rotate_left
                          · simp only [Act.put, lsA, lsZ, lsS, i64_w, i32_w]
                            rfl
                          refine pure_ (i := 16) (N := some 77) (v := ?_) (a' := ?_) #[true, true, true, true, true, true, true, true, true, true, true, true, true, true, true, true, true, false, false, false, false, false, false] rfl rfl (any_of HT_.out (by kernel_rfl)) (fun _ _ _ h => h) (Or.inl ⟨by rfl, ?_⟩) ?_ ?_
                          rotate_left
                          · intro w'
                            (try simp only [EQc61.out])
                            go_simp
                            with_reducible rfl
                          rotate_left
                          · simp only [Act.put, lsA, lsZ, lsS, i64_w, i32_w]
                            rfl
                          refine pure_ (i := 17) (N := some 78) (v := ?_) (a' := ?_) #[true, true, true, true, true, true, true, true, true, true, true, true, true, true, true, true, true, true, false, false, false, false, false] rfl rfl (any_of HT_.out (by kernel_rfl)) (fun _ _ _ h => h) (Or.inl ⟨by rfl, ?_⟩) ?_ ?_
                          rotate_left
                          · intro w'
                            (try simp only [EQc61.out])
                            go_simp
                            with_reducible rfl
                          rotate_left
                          · simp only [Act.put, lsA, lsZ, lsS, i64_w, i32_w]
                            rfl
                          refine pure_ (i := 20) (N := some 81) (v := ?_) (a' := ?_) #[true, true, true, true, true, true, true, true, true, true, true, true, true, true, true, true, true, true, false, false, true, false, false] rfl rfl (any_of HT_.out (by kernel_rfl)) (fun _ _ _ h => h) (Or.inl ⟨by rfl, ?_⟩) ?_ ?_
                          rotate_left
                          · intro w'
                            (try simp only [EQc61.out])
                            go_simp
                            with_reducible rfl
                          rotate_left
                          · simp only [Act.put, lsA, lsZ, lsS, i64_w, i32_w]
                            rfl
                          refine take_ (i := 18) (N := some 79) (v := ?_) (a' := ?_) #[true, true, true, true, true, true, true, true, true, true, true, true, true, true, true, true, true, true, true, false, true, false, false] rfl rfl (take_ofW HT_.out HW_.out (by kernel_rfl)) (fun _ _ _ h => h) (Or.inl ⟨by rfl, ?_⟩) hHeld ?_ ?_
                          rotate_left
                          · rintro w' ⟨s0, s1⟩
                            (try simp only [EQc61.out])
                            go_simp
                            with_reducible rfl
                          rotate_left
                          · simp only [Act.put, lsA, lsZ, lsS, i64_w, i32_w]
                            rfl
                          refine one_ (i := 19) (N := some 80) #[true, true, true, true, true, true, true, true, true, true, true, true, true, true, true, true, true, true, true, true, true, false, false] rfl rfl (one_of HT_.out (by kernel_rfl)) (by decide) (fun K hK => ?_)
                          refine goesT_ 78 hcl.hf hcl.hname hcl.hb #[.agg #[.int .i64 x124000_2, .int .i64 (wrap64 (x124001_2 + ((rd_T54 t120 x48_2).f2)))]] (by rfl) rfl rfl rfl (by (try simp only [List.map_toArray, List.map_cons, List.map_nil]); first | done | rfl) ?_
                          with_reducible refine (hcl.hc x124000_2 (wrap64 (x124001_2 + ((rd_T54 t120 x48_2).f2))) t134 _ A79.out).mono ?_
                          rintro e w82 ⟨rfl, hb⟩
                          refine ⟨_, rfl, ?_⟩
                          have n0_ := Az (Kd.R_below (by (with_reducible repeat (first | apply Kd.R_alloc | apply Kd.R_drewN | apply Kd.R_drew)); exact HO_5.out) hb)
                          have n1_ := Az (Kd.R_below (by (with_reducible repeat (first | apply Kd.R_alloc | apply Kd.R_drewN | apply Kd.R_drew)); exact HO_10.out) hb)
                          have n2_ := Az (Kd.R_below (by (with_reducible repeat (first | apply Kd.R_alloc | apply Kd.R_drewN | apply Kd.R_drew)); exact HO_46.out) hb)
                          have n3_ := Az (blk_below (g := gb123) (o := .cells #[.int .i64 x124000_2, .int .i64 (wrap64 (x124001_2 + ((rd_T54 t120 x48_2).f2)))] 48 (0, 0)) (by (with_reducible repeat (first | refine blk_drewN ?_ _ | refine blk_drew ?_ | refine blk_alloc ?_ _)); exact BK123.out) hb)
                          have n4_ := Az (blk_below (g := gb125) (o := .cells #[.int .i64 ((rd_T54 t120 x48_2).f0), .int .i64 ((rd_T54 t120 x48_2).f1), .int .i64 ((rd_T54 t120 x48_2).f2)] 54 (0, 0)) (by (with_reducible repeat (first | refine blk_drewN ?_ _ | refine blk_drew ?_ | refine blk_alloc ?_ _)); exact BK125.out) hb)
                          have n5_ := Az (below_step (by repeat (first | (with_reducible first | exact HB.out | apply bal | apply bdN | apply bd1 | refine below_set ?_ GE123.out | refine below_set ?_ GE125.out) | exact HB.out)) hb)
                          clear HO_5
                          clear HO_10
                          clear HO_46
                          clear BK123
                          clear BK125
                          clear HB
                          have HO_5 := n0_
                          have HO_10 := n1_
                          have HO_46 := n2_
                          have BK123 := n3_
                          have BK125 := n4_
                          have HB := n5_
                          clear n0_ n1_ n2_ n3_ n4_ n5_
                          (try clear hb)
                          (try clear hb2)
                          (try clear hk)
                          (try clear hi)
                          refine hK.out _ _ ⟨(blk_cell BK123.out 0).trans rfl, (blk_cell BK123.out 1).trans rfl⟩ (fun hHeld => ?_)
                          clear hK K
                          refine norm_ (a' := ?_) ?_ ?_
                          rotate_left
                          · show Act.put _ (some 80) _ = _
                            simp only [Act.put, lsA, lsZ, lsS, i64_w, i32_w]
                            rfl
                          refine pure_ (i := 21) (N := some 82) (v := ?_) (a' := ?_) #[true, true, true, true, true, true, true, true, true, true, true, true, true, true, true, true, true, true, true, true, true, true, false] rfl rfl (any_of HT_.out (by kernel_rfl)) (fun _ _ _ h => h) (Or.inl ⟨by rfl, ?_⟩) ?_ ?_
                          rotate_left
                          · intro w'
                            (try simp only [EQc61.out])
                            go_simp
                            with_reducible rfl
                          rotate_left
                          · simp only [Act.put, lsA, lsZ, lsS, i64_w, i32_w]
                            rfl
                          refine pure_ (i := 22) (N := some 83) (v := ?_) (a' := ?_) #[true, true, true, true, true, true, true, true, true, true, true, true, true, true, true, true, true, true, true, true, true, true, true] rfl rfl (any_of HT_.out (by kernel_rfl)) (fun _ _ _ h => h) (Or.inl ⟨by rfl, ?_⟩) ?_ ?_
                          rotate_left
                          · intro w'
                            (try simp only [EQc61.out])
                            go_simp
                            with_reducible rfl
                          rotate_left
                          · simp only [Act.put, lsA, lsZ, lsS, i64_w, i32_w]
                            rfl
                          refine done_ (done_of HT_.out (by kernel_rfl)) ?_
                          try go_wp2
                          go_meet
                          case rel => exact ⟨_, ((t134 == x12_2)), (by first | rfl | (simp; done) | (simp [*]; done)), H', ⟨by have := HK1.out; have := HK2.out; first | omega | exact Nat.le_refl _⟩, ⟨by (with_reducible repeat (first | apply Kd.R_alloc | apply Kd.R_drewN | apply Kd.R_drew)); exact HO_5.out⟩, ⟨by (with_reducible repeat (first | apply Kd.R_alloc | apply Kd.R_drewN | apply Kd.R_drew)); exact HO_10.out⟩, ⟨by (with_reducible repeat (first | apply Kd.R_alloc | apply Kd.R_drewN | apply Kd.R_drew)); exact HO_46.out⟩, ⟨by (with_reducible repeat (first | refine blk_drewN ?_ _ | refine blk_drew ?_ | refine blk_alloc ?_ _)); exact BK123.out⟩, ⟨by (with_reducible repeat (first | refine blk_drewN ?_ _ | refine blk_drew ?_ | refine blk_alloc ?_ _)); exact BK125.out⟩, ⟨by repeat (first | (with_reducible first | exact HB.out | apply bal | apply bdN | apply bd1 | refine below_set ?_ GE123.out | refine below_set ?_ GE125.out) | exact HB.out)⟩⟩
                      case rest =>
                        clear HC62
                        try clear p1
                        try clear q1
                        try clear hx1
                        try clear p2
                        try clear c3
                        try clear c6
                        try clear p6
                        try clear c7
                        try clear p13
                        try clear q13
                        try clear hx13
                        try clear c36
                        try clear c61
                        try clear p64
                        try clear c69
                        try clear c69b0
                        try clear c69b1
                        try clear c71
                        try clear c72
                        try clear c72b0
                        try clear c72b1
                        try clear hx132_0
                        try clear hx132_1
                        try clear hx132_2
                        try clear p132
                        try clear q132
                        obtain ⟨kq, x83_61, rfl, HA, HJ61, HO_5, HO_10, HO_46, BK123, BK125, HB⟩ := hcut
                        cases kq with
                        | zero => exact absurd HA.out (by simp [span_combine.j4])
                        | succ kj61 =>
                          have H := HA.out
                          clear HA
                          simp only [span_combine.j4] at H
                          by_cases c83 : x83_61 = true
                          · subst c83
                            have H1 : (span_combine.l2 pp kj61 t120 x10_2 x12_2 x13_2 t120 (t120.length : Int) (wrap64 (x48_2 + 1)) x124000_2 (wrap64 (x124001_2 + ((rd_T54 t120 x48_2).f2)))) = some r := by rw [if_pos rfl] at H; exact H
                            clear H
                            have H := H1
                            clear H1
                            have H' := Az H
                            clear H
                            go_wp2
                            go_roundg kj61
                            case measure => have := HK1.out; have := HK2.out; have := HJ61.out; omega
                            case rel => exact ⟨(x10_2), (x12_2), (x13_2), (wrap64 (x48_2 + 1)), (x124000_2), ((wrap64 (x124001_2 + ((rd_T54 t120 x48_2).f2)))), (by first | rfl | (simp; done) | (simp [*]; done)), (by first | rfl | (simp; done) | (simp [*]; done)), (by first | rfl | (simp; done) | (simp [*]; done)), H', ⟨by have := HK1.out; have := HK2.out; have := HJ61.out; omega⟩, ⟨by (with_reducible repeat (first | apply Kd.R_alloc | apply Kd.R_drewN | apply Kd.R_drew)); exact Kd.R_mono HO_5.out (fun _ hk => trivial)⟩, ⟨by (with_reducible repeat (first | apply Kd.R_alloc | apply Kd.R_drewN | apply Kd.R_drew)); exact HO_10.out⟩, ⟨by (with_reducible repeat (first | apply Kd.R_alloc | apply Kd.R_drewN | apply Kd.R_drew)); exact Kd.R_mono HO_46.out (fun _ hk => trivial)⟩, ⟨by (with_reducible repeat (first | refine blk_drewN ?_ _ | refine blk_drew ?_ | refine blk_alloc ?_ _)); exact BK123.out⟩, ⟨by repeat (first | (with_reducible first | exact HB.out | apply bal | apply bdN | apply bd1 | refine below_set ?_ GE123.out | refine below_set ?_ GE125.out) | exact HB.out)⟩⟩
                          · replace c83 := Bool.eq_false_iff.mpr c83
                            subst c83
                            have H1 : (if x12_2 = true then (if x10_2.length < 8796093022208 then (span_combine.l2 pp kj61 t120 (x10_2 ++ [(⟨x13_2, ((rd_T54 t120 x48_2).f0)⟩ : S33)]) (!x12_2) ((rd_T54 t120 x48_2).f0) t120 (t120.length : Int) (wrap64 (x48_2 + 1)) x124000_2 (wrap64 (x124001_2 + ((rd_T54 t120 x48_2).f2)))) else (none)) else (span_combine.l2 pp kj61 t120 x10_2 (!x12_2) ((rd_T54 t120 x48_2).f0) t120 (t120.length : Int) (wrap64 (x48_2 + 1)) x124000_2 (wrap64 (x124001_2 + ((rd_T54 t120 x48_2).f2))))) = some r := by rw [if_neg (show ¬ (false = true) by decide)] at H; exact H
                            clear H
                            have H := H1
                            clear H1
                            by_cases c84 : x12_2 = true
                            · subst c84
                              have H1 : (if x10_2.length < 8796093022208 then (span_combine.l2 pp kj61 t120 (x10_2 ++ [(⟨x13_2, ((rd_T54 t120 x48_2).f0)⟩ : S33)]) (!true) ((rd_T54 t120 x48_2).f0) t120 (t120.length : Int) (wrap64 (x48_2 + 1)) x124000_2 (wrap64 (x124001_2 + ((rd_T54 t120 x48_2).f2)))) else (none)) = some r := by rw [if_pos rfl] at H; exact H
                              clear H
                              have H := H1
                              clear H1
                              by_cases c85 : x10_2.length < 8796093022208
                              · rw [if_pos c85] at H
                                have LMc85 := Az c85
                                clear c85
                                obtain ⟨y135, hy135⟩ : ∃ y_ : List (S33), y_ = (x10_2 ++ [(⟨x13_2, ((rd_T54 t120 x48_2).f0)⟩ : S33)]) := ⟨_, rfl⟩
                                replace H : (span_combine.l2 pp kj61 t120 y135 (!true) ((rd_T54 t120 x48_2).f0) t120 (t120.length : Int) (wrap64 (x48_2 + 1)) x124000_2 (wrap64 (x124001_2 + ((rd_T54 t120 x48_2).f2)))) = some r := by first | (rw [hy135]; with_reducible exact H) | (have H2_ := (Option.bind_some _ _).symm.trans H; rw [hy135]; with_reducible exact H2_) | (have H2_ := (Option.bind_some _ _).symm.trans H; with_reducible exact H2_) | with_reducible exact H | (rw [hy135]; exact H) | exact H
                                have Ny135 := Az hy135
                                clear hy135
                                have H' := Az H
                                clear H
                                have hnb86 := NB125_123.out
                                have hnc86 := NB123_125.out
                                have hcz87_0 : wc.cell? ⟨gb125, 0, none⟩ = some (.int .i64 ((rd_T54 t120 x48_2).f0)) := (blk_cell BK125.out 0).trans rfl
                                have hcz87_1 : wc.cell? ⟨gb125, 1, none⟩ = some (.int .i64 ((rd_T54 t120 x48_2).f1)) := (blk_cell BK125.out 1).trans rfl
                                have hcz87_2 : wc.cell? ⟨gb125, 2, none⟩ = some (.int .i64 ((rd_T54 t120 x48_2).f2)) := (blk_cell BK125.out 2).trans rfl
                                have hfz87_0 := blk_frozen BK125.out 0
                                have hfz87_1 := blk_frozen BK125.out 1
                                have hfz87_2 := blk_frozen BK125.out 2
                                try go_wp2_with (first | ((with_reducible refine gate_builtin (b := .append) (xs := #[.tmp 85, .tmp 90]) rfl ?_); at_builtin; refine Kd.R_append k33 (w0 := w) w.heap.size rfl (.tmp 85) (.tmp 90) 22 33 (.agg #[(.int .i64 0), (.int .i64 0)]) 16 rfl Try.underlying22 info33 rfl (by decide) (by omega) u10 x10_2 (⟨x13_2, ((rd_T54 t120 x48_2).f0)⟩ : S33) [.int .i64 x13_2, .int .i64 ((rd_T54 t120 x48_2).f0)] (fun _ => True) (fun _ => False) rfl rfl ?aP (fun _ hk => hk.elim) ?aF ?aO ?aB ?aS ?aL ?_; (case aP => exact k33_mkM _ _ _ (⟨x13_2, ((rd_T54 t120 x48_2).f0)⟩ : S33)); (case aB => exact (by repeat (first | (with_reducible first | exact HB.out | apply bal | apply bdN | apply bd1 | refine below_set ?_ GE123.out | refine below_set ?_ GE125.out) | exact HB.out))); (case aF => exact (fun _ _ => trivial)); (case aO => exact (by (with_reducible repeat (first | apply Kd.R_alloc | apply Kd.R_drewN | apply Kd.R_drew)); exact HO_10.out)); (case aS => exact (below_size (by repeat (first | (with_reducible first | exact HB.out | apply bal | apply bdN | apply bd1 | refine below_set ?_ GE123.out | refine below_set ?_ GE125.out) | exact HB.out)))); (case aL => have := LMc85.out; omega); intro v136 w88 ho hb hg hat; rw [← Ny135.out] at ho; have n0_ := Az (Kd.R_over' (by (with_reducible repeat (first | apply Kd.R_alloc | apply Kd.R_drewN | apply Kd.R_drew)); exact HO_5.out) (Kd.R_typed (by (with_reducible repeat (first | apply Kd.R_alloc | apply Kd.R_drewN | apply Kd.R_drew)); exact HO_10.out)) (by decide) hg); have n1_ := Az (Kd.R_over' (by (with_reducible repeat (first | apply Kd.R_alloc | apply Kd.R_drewN | apply Kd.R_drew)); exact HO_46.out) (Kd.R_typed (by (with_reducible repeat (first | apply Kd.R_alloc | apply Kd.R_drewN | apply Kd.R_drew)); exact HO_10.out)) (by decide) hg); have n2_ := Az (blk_grown (g := gb123) (o := .cells #[.int .i64 x124000_2, .int .i64 (wrap64 (x124001_2 + ((rd_T54 t120 x48_2).f2)))] 48 (0, 0)) (by (with_reducible repeat (first | refine blk_drewN ?_ _ | refine blk_drew ?_ | refine blk_alloc ?_ _)); exact BK123.out) hg (Kd.R_ne HO_10.out BK123.out (by decide))); have n3_ := Az (blk_grown (g := gb125) (o := .cells #[.int .i64 ((rd_T54 t120 x48_2).f0), .int .i64 ((rd_T54 t120 x48_2).f1), .int .i64 ((rd_T54 t120 x48_2).f2)] 54 (0, 0)) (by (with_reducible repeat (first | refine blk_drewN ?_ _ | refine blk_drew ?_ | refine blk_alloc ?_ _)); exact BK125.out) hg (Kd.R_ne HO_10.out BK125.out (by decide))); have n4_ := Az (hb); have n5_ := Az (ho); clear HO_5; clear HO_46; clear BK123; clear BK125; clear HB; clear HO_10; have HO_5 := n0_; have HO_46 := n1_; have BK123 := n2_; have BK125 := n3_; have HB := n4_; have HO137 := n5_; clear n0_ n1_ n2_ n3_ n4_ n5_; clear ho hb hg hat))
                                have n0_ := Az (Kd.R_drew HO_5.out)
                                have n1_ := Az (Kd.R_drew HO_46.out)
                                have n2_ := Az (Kd.R_drew HO137.out)
                                have n3_ := Az (blk_drew BK123.out)
                                have n4_ := Az (blk_drew BK125.out)
                                have n5_ := Az (bd1 HB.out)
                                clear HO_5
                                clear HO_46
                                clear HO137
                                clear BK123
                                clear BK125
                                clear HB
                                have HO_5 := n0_
                                have HO_46 := n1_
                                have HO137 := n2_
                                have BK123 := n3_
                                have BK125 := n4_
                                have HB := n5_
                                clear n0_ n1_ n2_ n3_ n4_ n5_
                                refine start_ (n := 6) (S := fun w' => w'.cell? ⟨gb125, 0, none⟩ = some (.int .i64 ((rd_T54 t120 x48_2).f0)) ∧ w'.cell? ⟨gb125, 1, none⟩ = some (.int .i64 ((rd_T54 t120 x48_2).f1)) ∧ w'.cell? ⟨gb125, 2, none⟩ = some (.int .i64 ((rd_T54 t120 x48_2).f2))) (ds := []) #[false, false, false, false, false, false] (by kernel_rfl) rfl rfl ⟨(blk_cell BK125.out 0).trans rfl, (blk_cell BK125.out 1).trans rfl, (blk_cell BK125.out 2).trans rfl⟩ (fun hHeld => ?_)
                                generalize w88.drew = w89 at HO_5 HO_46 HO137 BK123 BK125 HB hHeld ⊢
                                refine pure_ (i := 0) (N := some 92) (v := ?_) (a' := ?_) #[true, false, false, false, false, false] rfl rfl (by kernel_rfl) (fun _ _ _ h => h) (Or.inl ⟨by rfl, ?_⟩) ?_ ?_
                                rotate_left
                                · intro w'
                                  (try simp only [EQc61.out])
                                  go_simp
                                  with_reducible rfl
                                rotate_left
                                · simp only [Act.put, lsA, lsZ, lsS, i64_w, i32_w]
                                  rfl
                                refine pure_ (i := 1) (N := some 93) (v := ?_) (a' := ?_) #[true, true, false, false, false, false] rfl rfl (by kernel_rfl) (fun _ _ _ h => h) (Or.inl ⟨by rfl, ?_⟩) ?_ ?_
                                rotate_left
                                · intro w'
                                  (try simp only [EQc61.out])
                                  go_simp
                                  with_reducible rfl
                                rotate_left
                                · simp only [Act.put, lsA, lsZ, lsS, i64_w, i32_w]
                                  rfl
                                refine pure_ (i := 2) (N := some 94) (v := ?_) (a' := ?_) #[true, true, true, false, false, false] rfl rfl (by kernel_rfl) (fun _ _ _ h => h) (Or.inl ⟨by rfl, ?_⟩) ?_ ?_
                                rotate_left
                                · intro w'
                                  (try simp only [EQc61.out])
                                  go_simp
                                  with_reducible rfl
                                rotate_left
                                · simp only [Act.put, lsA, lsZ, lsS, i64_w, i32_w]
                                  rfl
                                refine pure_ (i := 4) (N := some 12) (v := ?_) (a' := ?_) #[true, true, true, false, true, false] rfl rfl (by kernel_rfl) (fun _ _ _ h => h) (Or.inl ⟨by rfl, ?_⟩) ?_ ?_
                                rotate_left
                                · intro w'
                                  (try simp only [EQc61.out])
                                  go_simp
                                  with_reducible rfl
                                rotate_left
                                · simp only [Act.put, lsA, lsZ, lsS, i64_w, i32_w]
                                  rfl
                                refine take_ (i := 3) (N := some 95) (v := ?_) (a' := ?_) #[true, true, true, true, true, false] rfl rfl (by kernel_rfl) (fun _ _ _ h => h) (Or.inl ⟨by rfl, ?_⟩) hHeld ?_ ?_
                                rotate_left
                                · rintro w' ⟨s0, s1, s2⟩
                                  (try simp only [EQc61.out])
                                  go_simp
                                  with_reducible rfl
                                rotate_left
                                · simp only [Act.put, lsA, lsZ, lsS, i64_w, i32_w]
                                  rfl
                                refine pure_ (i := 5) (N := some 13) (v := ?_) (a' := ?_) #[true, true, true, true, true, true] rfl rfl (by kernel_rfl) (fun _ _ _ h => h) (Or.inl ⟨by rfl, ?_⟩) ?_ ?_
                                rotate_left
                                · intro w'
                                  (try simp only [EQc61.out])
                                  go_simp
                                  with_reducible rfl
                                rotate_left
                                · simp only [Act.put, lsA, lsZ, lsS, i64_w, i32_w]
                                  rfl
                                refine done_ (by kernel_rfl) ?_
                                try go_wp2
                                go_roundg kj61
                                case measure => have := HK1.out; have := HK2.out; have := HJ61.out; omega
                                case rel => exact ⟨(y135), (!true), (((rd_T54 t120 x48_2).f0)), (wrap64 (x48_2 + 1)), (x124000_2), ((wrap64 (x124001_2 + ((rd_T54 t120 x48_2).f2)))), (by first | rfl | (simp; done) | (simp [*]; done)), (by first | rfl | (simp; done) | (simp [*]; done)), (by first | rfl | (simp; done) | (simp [*]; done)), H', ⟨by have := HK1.out; have := HK2.out; have := HJ61.out; omega⟩, ⟨by (with_reducible repeat (first | apply Kd.R_alloc | apply Kd.R_drewN | apply Kd.R_drew)); exact Kd.R_mono HO_5.out (fun _ hk => trivial)⟩, ⟨by (with_reducible repeat (first | apply Kd.R_alloc | apply Kd.R_drewN | apply Kd.R_drew)); exact HO137.out⟩, ⟨by (with_reducible repeat (first | apply Kd.R_alloc | apply Kd.R_drewN | apply Kd.R_drew)); exact Kd.R_mono HO_46.out (fun _ hk => trivial)⟩, ⟨by (with_reducible repeat (first | refine blk_drewN ?_ _ | refine blk_drew ?_ | refine blk_alloc ?_ _)); exact BK123.out⟩, ⟨by repeat (first | (with_reducible first | exact HB.out | apply bal | apply bdN | apply bd1 | refine below_set ?_ GE123.out | refine below_set ?_ GE125.out) | exact HB.out)⟩⟩
                              · rw [if_neg c85] at H
                                exact absurd H (by simp)
                            · replace c84 := Bool.eq_false_iff.mpr c84
                              subst c84
                              have H1 : (span_combine.l2 pp kj61 t120 x10_2 (!false) ((rd_T54 t120 x48_2).f0) t120 (t120.length : Int) (wrap64 (x48_2 + 1)) x124000_2 (wrap64 (x124001_2 + ((rd_T54 t120 x48_2).f2)))) = some r := by rw [if_neg (show ¬ (false = true) by decide)] at H; exact H
                              clear H
                              have H := H1
                              clear H1
                              have H' := Az H
                              clear H
                              try go_wp2
                              have n0_ := Az (Kd.R_drew HO_5.out)
                              have n1_ := Az (Kd.R_drew HO_10.out)
                              have n2_ := Az (Kd.R_drew HO_46.out)
                              have n3_ := Az (blk_drew BK123.out)
                              have n4_ := Az (blk_drew BK125.out)
                              have n5_ := Az (bd1 HB.out)
                              clear HO_5
                              clear HO_10
                              clear HO_46
                              clear BK123
                              clear BK125
                              clear HB
                              have HO_5 := n0_
                              have HO_10 := n1_
                              have HO_46 := n2_
                              have BK123 := n3_
                              have BK125 := n4_
                              have HB := n5_
                              clear n0_ n1_ n2_ n3_ n4_ n5_
                              refine start_ (n := 6) (S := fun w' => w'.cell? ⟨gb125, 0, none⟩ = some (.int .i64 ((rd_T54 t120 x48_2).f0)) ∧ w'.cell? ⟨gb125, 1, none⟩ = some (.int .i64 ((rd_T54 t120 x48_2).f1)) ∧ w'.cell? ⟨gb125, 2, none⟩ = some (.int .i64 ((rd_T54 t120 x48_2).f2))) (ds := []) #[false, false, false, false, false, false] (by kernel_rfl) rfl rfl ⟨(blk_cell BK125.out 0).trans rfl, (blk_cell BK125.out 1).trans rfl, (blk_cell BK125.out 2).trans rfl⟩ (fun hHeld => ?_)
                              generalize wc.drew = w90 at HO_5 HO_10 HO_46 BK123 BK125 HB hHeld ⊢
                              refine pure_ (i := 0) (N := some 92) (v := ?_) (a' := ?_) #[true, false, false, false, false, false] rfl rfl (by kernel_rfl) (fun _ _ _ h => h) (Or.inl ⟨by rfl, ?_⟩) ?_ ?_
                              rotate_left
                              · intro w'
                                (try simp only [EQc61.out])
                                go_simp
                                with_reducible rfl
                              rotate_left
                              · simp only [Act.put, lsA, lsZ, lsS, i64_w, i32_w]
                                rfl
                              refine pure_ (i := 1) (N := some 93) (v := ?_) (a' := ?_) #[true, true, false, false, false, false] rfl rfl (by kernel_rfl) (fun _ _ _ h => h) (Or.inl ⟨by rfl, ?_⟩) ?_ ?_
                              rotate_left
                              · intro w'
                                (try simp only [EQc61.out])
                                go_simp
                                with_reducible rfl
                              rotate_left
                              · simp only [Act.put, lsA, lsZ, lsS, i64_w, i32_w]
                                rfl
                              refine pure_ (i := 2) (N := some 94) (v := ?_) (a' := ?_) #[true, true, true, false, false, false] rfl rfl (by kernel_rfl) (fun _ _ _ h => h) (Or.inl ⟨by rfl, ?_⟩) ?_ ?_
                              rotate_left
                              · intro w'
                                (try simp only [EQc61.out])
                                go_simp
                                with_reducible rfl
                              rotate_left
                              · simp only [Act.put, lsA, lsZ, lsS, i64_w, i32_w]
                                rfl
                              refine pure_ (i := 4) (N := some 12) (v := ?_) (a' := ?_) #[true, true, true, false, true, false] rfl rfl (by kernel_rfl) (fun _ _ _ h => h) (Or.inl ⟨by rfl, ?_⟩) ?_ ?_
                              rotate_left
                              · intro w'
                                (try simp only [EQc61.out])
                                go_simp
                                with_reducible rfl
                              rotate_left
                              · simp only [Act.put, lsA, lsZ, lsS, i64_w, i32_w]
                                rfl
                              refine take_ (i := 3) (N := some 95) (v := ?_) (a' := ?_) #[true, true, true, true, true, false] rfl rfl (by kernel_rfl) (fun _ _ _ h => h) (Or.inl ⟨by rfl, ?_⟩) hHeld ?_ ?_
                              rotate_left
                              · rintro w' ⟨s0, s1, s2⟩
                                (try simp only [EQc61.out])
                                go_simp
                                with_reducible rfl
                              rotate_left
                              · simp only [Act.put, lsA, lsZ, lsS, i64_w, i32_w]
                                rfl
                              refine pure_ (i := 5) (N := some 13) (v := ?_) (a' := ?_) #[true, true, true, true, true, true] rfl rfl (by kernel_rfl) (fun _ _ _ h => h) (Or.inl ⟨by rfl, ?_⟩) ?_ ?_
                              rotate_left
                              · intro w'
                                (try simp only [EQc61.out])
                                go_simp
                                with_reducible rfl
                              rotate_left
                              · simp only [Act.put, lsA, lsZ, lsS, i64_w, i32_w]
                                rfl
                              refine done_ (by kernel_rfl) ?_
                              try go_wp2
                              go_roundg kj61
                              case measure => have := HK1.out; have := HK2.out; have := HJ61.out; omega
                              case rel => exact ⟨(x10_2), (!false), (((rd_T54 t120 x48_2).f0)), (wrap64 (x48_2 + 1)), (x124000_2), ((wrap64 (x124001_2 + ((rd_T54 t120 x48_2).f2)))), (by first | rfl | (simp; done) | (simp [*]; done)), (by first | rfl | (simp; done) | (simp [*]; done)), (by first | rfl | (simp; done) | (simp [*]; done)), H', ⟨by have := HK1.out; have := HK2.out; have := HJ61.out; omega⟩, ⟨by (with_reducible repeat (first | apply Kd.R_alloc | apply Kd.R_drewN | apply Kd.R_drew)); exact Kd.R_mono HO_5.out (fun _ hk => trivial)⟩, ⟨by (with_reducible repeat (first | apply Kd.R_alloc | apply Kd.R_drewN | apply Kd.R_drew)); exact HO_10.out⟩, ⟨by (with_reducible repeat (first | apply Kd.R_alloc | apply Kd.R_drewN | apply Kd.R_drew)); exact Kd.R_mono HO_46.out (fun _ hk => trivial)⟩, ⟨by (with_reducible repeat (first | refine blk_drewN ?_ _ | refine blk_drew ?_ | refine blk_alloc ?_ _)); exact BK123.out⟩, ⟨by repeat (first | (with_reducible first | exact HB.out | apply bal | apply bdN | apply bd1 | refine below_set ?_ GE123.out | refine below_set ?_ GE125.out) | exact HB.out)⟩⟩
                    · rw [if_neg c61] at H
                      exact absurd H (by simp)
                · rw [if_neg c30] at H
                  exact absurd H (by simp)
              · rw [if_neg c29] at H
                exact absurd H (by simp)
            · rw [if_neg c28] at H
              have c28b0 : decide (x48_2 < (t120.length : Int)) = false := decide_eq_false c28
              clear c28
              obtain rfl := Option.some.inj H
              go_wp2
              go_ret
              exact ⟨_, by first | rfl | (simp [errW_none, errW_some] <;> rfl) | (simp [*, errW_none, errW_some] <;> rfl), by (with_reducible repeat (first | apply Kd.R_alloc | apply Kd.R_drewN | apply Kd.R_drew)); exact HO_10.out, by repeat (first | (with_reducible first | exact HB.out | apply bal | apply bdN | apply bd1 | refine below_set ?_ GE123.out) | exact HB.out)⟩
end
end Go.Proofs.Ytgplnfhpeeifjaa.Q
