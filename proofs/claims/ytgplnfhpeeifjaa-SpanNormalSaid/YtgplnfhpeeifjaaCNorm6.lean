/- For any list of spans its normal form is valid, holds the same days at and beside every bound, does not change when the spans stand in another order, when one is repeated or when improper spans are added, and is the list itself exactly if the list is valid; conditions: the arguments are values that Go can hold, nothing else.
   The walk of the law's code and its plain law (merged by wip/tools/trim.py out of own texts and of texts that the kit's printer wrote). -/
import Derived.Test.YtgplnfhpeeifjaaCNorm5
namespace Go.Proofs.Ytgplnfhpeeifjaa.Q
open Go.RowKit Go.Proofs.YtgplnfhpeeifjaaW.PrintWords Go.Proofs.YtgplnfhpeeifjaaW.PrintLast Go.Proofs.YtgplnfhpeeifjaaW.PrintMore
attribute [local go_sem] max2_int min2_int max_two min_two max_three min_three max_four min_four   -- for this text's walks alone
set_option linter.unusedVariables false
set_option linter.unusedSimpArgs false
mutual
def wageofficelaw04_SpanNormal.j0 : Nat → List (S33) → Int → Int → Bool → List (S33) → Bool → Option (Bool)
  | 0, _, _, _, _, _, _ => none
  | k + 1, x0, x1, x2, x7, x8, x40 => if x40 = true then (none) else (wageofficelaw04_SpanNormal.l0 k x0 x1 x2 x7 x8 x8 (x8.length : Int) 0)
def wageofficelaw04_SpanNormal.l0 : Nat → List (S33) → Int → Int → Bool → List (S33) → List (S33) → Int → Int → Option (Bool)
  | 0, _, _, _, _, _, _, _, _ => none
  | k + 1, x0, x1, x2, x7, x8, x41, x42, x43 => if x43 < x42 then (if 0 ≤ x43 then (if x43 < (x41.length : Int) then (if ((rd_T33 x41 x43).f0) ≥ ((rd_T33 x41 x43).f1) then (none) else (if x43 > 0 then (if 0 ≤ (wrap64 (x43 - 1)) then (if (wrap64 (x43 - 1)) < (x8.length : Int) then (if ((rd_T33 x8 (wrap64 (x43 - 1))).f1) ≥ ((rd_T33 x41 x43).f0) then (none) else (wageofficelaw04_SpanNormal.l0 k x0 x1 x2 x7 x8 x41 x42 (wrap64 (x43 + 1)))) else (none)) else (none)) else (wageofficelaw04_SpanNormal.l0 k x0 x1 x2 x7 x8 x41 x42 (wrap64 (x43 + 1))))) else (none)) else (none)) else ((some (([] : List (S33)) : List (S33))).bind fun y347 => (if y347.length + x0.length < 8796093022208 then ((some (y347 ++ x0 : List (S33))).bind fun y350 => (if y350.length + x8.length < 8796093022208 then ((some (y350 ++ x8 : List (S33))).bind fun y353 => (wageofficelaw04_SpanNormal.l1 k x0 x1 x2 x7 x8 y353 (y353.length : Int) 0)) else (none))) else (none)))
def wageofficelaw04_SpanNormal.l1 : Nat → List (S33) → Int → Int → Bool → List (S33) → List (S33) → Int → Int → Option (Bool)
  | 0, _, _, _, _, _, _, _, _ => none
  | k + 1, x0, x1, x2, x7, x8, x73, x74, x75 => if x75 < x74 then (if 0 ≤ x75 then (if x75 < (x73.length : Int) then (wageofficelaw04_SpanNormal.l2 k x0 x1 x2 x7 x8 (-1) x73 x74 x75 ((rd_T33 x73 x75).f0) ((rd_T33 x73 x75).f1)) else (none)) else (none)) else ((wageofficelaw04_shuffled.f k x0 x1).bind fun t363 => (if (x0.length : Int) > 0 then (if (x0.length : Int) = 0 then (none) else (if 0 ≤ (Int.tmod (wrap64 (x2)) (x0.length : Int)) then (if (Int.tmod (wrap64 (x2)) (x0.length : Int)) < (x0.length : Int) then ((some (([(⟨(rd_T33 x0 (Int.tmod (wrap64 (x2)) (x0.length : Int))).f0, (rd_T33 x0 (Int.tmod (wrap64 (x2)) (x0.length : Int))).f1⟩ : S33), (⟨5, 5⟩ : S33), (⟨2305843009213693951, 3⟩ : S33)] : List (S33)) : List (S33))).bind fun y367 => (if t363.length + y367.length < 8796093022208 then (if x7 = true then ((span_Normal.f k (t363 ++ y367)).bind fun t373 => ((wageofficeref04_Same.f k t373 x8).bind fun t376 => (some t376))) else (none)) else (none))) else (none)) else (none))) else (if x7 = true then ((span_Normal.f k t363).bind fun t377 => ((wageofficeref04_Same.f k t377 x8).bind fun t380 => (some t380))) else (none))))
def wageofficelaw04_SpanNormal.l2 : Nat → List (S33) → Int → Int → Bool → List (S33) → Int → List (S33) → Int → Int → Int → Int → Option (Bool)
  | 0, _, _, _, _, _, _, _, _, _, _, _ => none
  | k + 1, x0, x1, x2, x7, x8, x13, x73, x74, x75, x358000, x358001 => if x13 ≤ 1 then ((wageofficelaw04_far.f x358000 x358001).bind fun t358 => (if t358 = true then ((span_Has.f x0 (wrap64 (x358000 + x13))).bind fun t359 => ((span_Has.f x8 (wrap64 (x358000 + x13))).bind fun t360 => (if (t359 != t360) = true then (none) else ((span_Has.f x0 (wrap64 (x358001 + x13))).bind fun t361 => ((span_Has.f x8 (wrap64 (x358001 + x13))).bind fun t362 => (if (t361 != t362) = true then (none) else (wageofficelaw04_SpanNormal.l2 k x0 x1 x2 x7 x8 (wrap64 (x13 + 1)) x73 x74 x75 x358000 x358001))))))) else (wageofficelaw04_SpanNormal.l2 k x0 x1 x2 x7 x8 (wrap64 (x13 + 1)) x73 x74 x75 x358000 x358001))) else (wageofficelaw04_SpanNormal.l1 k x0 x1 x2 x7 x8 x73 x74 (wrap64 (x75 + 1)))
end
def wageofficelaw04_SpanNormal.f (k : Nat) (l0 : List (S33)) (a1 : Int) (a2 : Int) : Option (Bool) := (wageofficelaw04_head.f k).bind fun t329 => ((wageofficelaw04_short.f k (([l0] : List (List (S33))))).bind fun t333 => (if t333 = true then ((span_Normal.f k l0).bind fun t334 => ((span_Valid.f k t334).bind fun t337 => (if t337 = true then ((span_Normal.f k t334).bind fun t338 => ((wageofficeref04_Same.f k t338 t334).bind fun t341 => (if t341 = true then ((span_Valid.f k l0).bind fun t342 => ((wageofficeref04_Same.f k t334 l0).bind fun t343 => (wageofficelaw04_SpanNormal.j0 k l0 a1 a2 t329 t334 (t342 != t343)))) else (wageofficelaw04_SpanNormal.j0 k l0 a1 a2 t329 t334 true)))) else (wageofficelaw04_SpanNormal.j0 k l0 a1 a2 t329 t334 true)))) else (some t329)))
theorem wageofficelaw04_SpanNormal.mono_l : ∀ k, (∀ y0 y1 y2 y3 y4 y5, LeO (wageofficelaw04_SpanNormal.j0 k y0 y1 y2 y3 y4 y5) (wageofficelaw04_SpanNormal.j0 (k + 1) y0 y1 y2 y3 y4 y5)) ∧ (∀ y0 y1 y2 y3 y4 y5 y6 y7, LeO (wageofficelaw04_SpanNormal.l0 k y0 y1 y2 y3 y4 y5 y6 y7) (wageofficelaw04_SpanNormal.l0 (k + 1) y0 y1 y2 y3 y4 y5 y6 y7)) ∧ (∀ y0 y1 y2 y3 y4 y5 y6 y7, LeO (wageofficelaw04_SpanNormal.l1 k y0 y1 y2 y3 y4 y5 y6 y7) (wageofficelaw04_SpanNormal.l1 (k + 1) y0 y1 y2 y3 y4 y5 y6 y7)) ∧ (∀ y0 y1 y2 y3 y4 y5 y6 y7 y8 y9 y10, LeO (wageofficelaw04_SpanNormal.l2 k y0 y1 y2 y3 y4 y5 y6 y7 y8 y9 y10) (wageofficelaw04_SpanNormal.l2 (k + 1) y0 y1 y2 y3 y4 y5 y6 y7 y8 y9 y10))
  | 0 => ⟨fun _ _ _ _ _ _ r h => by simp [wageofficelaw04_SpanNormal.j0] at h, fun _ _ _ _ _ _ _ _ r h => by simp [wageofficelaw04_SpanNormal.l0] at h, fun _ _ _ _ _ _ _ _ r h => by simp [wageofficelaw04_SpanNormal.l1] at h, fun _ _ _ _ _ _ _ _ _ _ _ r h => by simp [wageofficelaw04_SpanNormal.l2] at h⟩
  | k + 1 => by
    obtain ⟨ih0, ih1, ih2, ih3⟩ := wageofficelaw04_SpanNormal.mono_l k
    refine ⟨?_, ?_, ?_, ?_⟩
    · intro y0 y1 y2 y3 y4 y5
      unfold wageofficelaw04_SpanNormal.j0
      repeat' first
      | (with_reducible exact ih0 _ _ _ _ _ _)
      | (with_reducible exact ih1 _ _ _ _ _ _ _ _)
      | (with_reducible exact ih2 _ _ _ _ _ _ _ _)
      | (with_reducible exact ih3 _ _ _ _ _ _ _ _ _ _ _)
      | (with_reducible exact span_Normal.mono _ _)
      | (with_reducible exact span_Valid.mono _ _)
      | (with_reducible exact wageofficelaw04_head.mono _)
      | (with_reducible exact wageofficelaw04_short.mono _ _)
      | (with_reducible exact wageofficelaw04_shuffled.mono _ _ _)
      | (with_reducible exact wageofficeref04_Same.mono _ _ _)
      | (with_reducible exact LeO.refl _)
      | (with_reducible exact LeO.none _)
      | (with_reducible refine LeO.ite ?_ ?_)
      | (with_reducible refine LeO.bind ?_ (fun _ => ?_))
      | exact ih0 _ _ _ _ _ _
      | exact ih1 _ _ _ _ _ _ _ _
      | exact ih2 _ _ _ _ _ _ _ _
      | exact ih3 _ _ _ _ _ _ _ _ _ _ _
      | exact span_Normal.mono _ _
      | exact span_Valid.mono _ _
      | exact wageofficelaw04_head.mono _
      | exact wageofficelaw04_short.mono _ _
      | exact wageofficelaw04_shuffled.mono _ _ _
      | exact wageofficeref04_Same.mono _ _ _
      | exact LeO.none _
      | refine LeO.ite ?_ ?_
      | refine LeO.bind ?_ (fun _ => ?_)
    · intro y0 y1 y2 y3 y4 y5 y6 y7
      unfold wageofficelaw04_SpanNormal.l0
      repeat' first
      | (with_reducible exact ih0 _ _ _ _ _ _)
      | (with_reducible exact ih1 _ _ _ _ _ _ _ _)
      | (with_reducible exact ih2 _ _ _ _ _ _ _ _)
      | (with_reducible exact ih3 _ _ _ _ _ _ _ _ _ _ _)
      | (with_reducible exact span_Normal.mono _ _)
      | (with_reducible exact span_Valid.mono _ _)
      | (with_reducible exact wageofficelaw04_head.mono _)
      | (with_reducible exact wageofficelaw04_short.mono _ _)
      | (with_reducible exact wageofficelaw04_shuffled.mono _ _ _)
      | (with_reducible exact wageofficeref04_Same.mono _ _ _)
      | (with_reducible exact LeO.refl _)
      | (with_reducible exact LeO.none _)
      | (with_reducible refine LeO.ite ?_ ?_)
      | (with_reducible refine LeO.bind ?_ (fun _ => ?_))
      | exact ih0 _ _ _ _ _ _
      | exact ih1 _ _ _ _ _ _ _ _
      | exact ih2 _ _ _ _ _ _ _ _
      | exact ih3 _ _ _ _ _ _ _ _ _ _ _
      | exact span_Normal.mono _ _
      | exact span_Valid.mono _ _
      | exact wageofficelaw04_head.mono _
      | exact wageofficelaw04_short.mono _ _
      | exact wageofficelaw04_shuffled.mono _ _ _
      | exact wageofficeref04_Same.mono _ _ _
      | exact LeO.none _
      | refine LeO.ite ?_ ?_
      | refine LeO.bind ?_ (fun _ => ?_)
    · intro y0 y1 y2 y3 y4 y5 y6 y7
      unfold wageofficelaw04_SpanNormal.l1
      repeat' first
      | (with_reducible exact ih0 _ _ _ _ _ _)
      | (with_reducible exact ih1 _ _ _ _ _ _ _ _)
      | (with_reducible exact ih2 _ _ _ _ _ _ _ _)
      | (with_reducible exact ih3 _ _ _ _ _ _ _ _ _ _ _)
      | (with_reducible exact span_Normal.mono _ _)
      | (with_reducible exact span_Valid.mono _ _)
      | (with_reducible exact wageofficelaw04_head.mono _)
      | (with_reducible exact wageofficelaw04_short.mono _ _)
      | (with_reducible exact wageofficelaw04_shuffled.mono _ _ _)
      | (with_reducible exact wageofficeref04_Same.mono _ _ _)
      | (with_reducible exact LeO.refl _)
      | (with_reducible exact LeO.none _)
      | (with_reducible refine LeO.ite ?_ ?_)
      | (with_reducible refine LeO.bind ?_ (fun _ => ?_))
      | exact ih0 _ _ _ _ _ _
      | exact ih1 _ _ _ _ _ _ _ _
      | exact ih2 _ _ _ _ _ _ _ _
      | exact ih3 _ _ _ _ _ _ _ _ _ _ _
      | exact span_Normal.mono _ _
      | exact span_Valid.mono _ _
      | exact wageofficelaw04_head.mono _
      | exact wageofficelaw04_short.mono _ _
      | exact wageofficelaw04_shuffled.mono _ _ _
      | exact wageofficeref04_Same.mono _ _ _
      | exact LeO.none _
      | refine LeO.ite ?_ ?_
      | refine LeO.bind ?_ (fun _ => ?_)
    · intro y0 y1 y2 y3 y4 y5 y6 y7 y8 y9 y10
      unfold wageofficelaw04_SpanNormal.l2
      repeat' first
      | (with_reducible exact ih0 _ _ _ _ _ _)
      | (with_reducible exact ih1 _ _ _ _ _ _ _ _)
      | (with_reducible exact ih2 _ _ _ _ _ _ _ _)
      | (with_reducible exact ih3 _ _ _ _ _ _ _ _ _ _ _)
      | (with_reducible exact span_Normal.mono _ _)
      | (with_reducible exact span_Valid.mono _ _)
      | (with_reducible exact wageofficelaw04_head.mono _)
      | (with_reducible exact wageofficelaw04_short.mono _ _)
      | (with_reducible exact wageofficelaw04_shuffled.mono _ _ _)
      | (with_reducible exact wageofficeref04_Same.mono _ _ _)
      | (with_reducible exact LeO.refl _)
      | (with_reducible exact LeO.none _)
      | (with_reducible refine LeO.ite ?_ ?_)
      | (with_reducible refine LeO.bind ?_ (fun _ => ?_))
      | exact ih0 _ _ _ _ _ _
      | exact ih1 _ _ _ _ _ _ _ _
      | exact ih2 _ _ _ _ _ _ _ _
      | exact ih3 _ _ _ _ _ _ _ _ _ _ _
      | exact span_Normal.mono _ _
      | exact span_Valid.mono _ _
      | exact wageofficelaw04_head.mono _
      | exact wageofficelaw04_short.mono _ _
      | exact wageofficelaw04_shuffled.mono _ _ _
      | exact wageofficeref04_Same.mono _ _ _
      | exact LeO.none _
      | refine LeO.ite ?_ ?_
      | refine LeO.bind ?_ (fun _ => ?_)
theorem wageofficelaw04_SpanNormal.mono : ∀ a0 a1 a2 k, LeO (wageofficelaw04_SpanNormal.f k a0 a1 a2) (wageofficelaw04_SpanNormal.f (k + 1) a0 a1 a2) := by
  intro a0 a1 a2 k
  obtain ⟨ih0, ih1, ih2, ih3⟩ := wageofficelaw04_SpanNormal.mono_l k
  unfold wageofficelaw04_SpanNormal.f
  repeat' first
      | (with_reducible exact ih0 _ _ _ _ _ _)
      | (with_reducible exact ih1 _ _ _ _ _ _ _ _)
      | (with_reducible exact ih2 _ _ _ _ _ _ _ _)
      | (with_reducible exact ih3 _ _ _ _ _ _ _ _ _ _ _)
      | (with_reducible exact span_Normal.mono _ _)
      | (with_reducible exact span_Valid.mono _ _)
      | (with_reducible exact wageofficelaw04_head.mono _)
      | (with_reducible exact wageofficelaw04_short.mono _ _)
      | (with_reducible exact wageofficelaw04_shuffled.mono _ _ _)
      | (with_reducible exact wageofficeref04_Same.mono _ _ _)
      | (with_reducible exact LeO.refl _)
      | (with_reducible exact LeO.none _)
      | (with_reducible refine LeO.ite ?_ ?_)
      | (with_reducible refine LeO.bind ?_ (fun _ => ?_))
      | exact ih0 _ _ _ _ _ _
      | exact ih1 _ _ _ _ _ _ _ _
      | exact ih2 _ _ _ _ _ _ _ _
      | exact ih3 _ _ _ _ _ _ _ _ _ _ _
      | exact span_Normal.mono _ _
      | exact span_Valid.mono _ _
      | exact wageofficelaw04_head.mono _
      | exact wageofficelaw04_short.mono _ _
      | exact wageofficelaw04_shuffled.mono _ _ _
      | exact wageofficeref04_Same.mono _ _ _
      | exact LeO.none _
      | refine LeO.ite ?_ ?_
      | refine LeO.bind ?_ (fun _ => ?_)
def wageofficelaw04_SpanNormal.T10 : Bool × List (List Nat × List Nat) := (true, [([], []), ([0], [0]), ([], []), ([2], [2]), ([1, 3], [1, 3]), ([4], [4]), ([5], [5]), ([6, 5], [5, 6]), ([7, 5, 5], [5, 7]), ([8], [8]), ([8], [8]), ([10, 8], [8, 10]), ([9, 11, 8], [8, 9, 11]), ([12, 8], [8, 12]), ([13, 8], [8, 13]), ([8], [8]), ([15, 8], [8, 15]), ([14, 16, 8], [8, 14, 16]), ([8, 17, 5], [5, 8, 17]), ([5, 18], [5, 18])])
def wageofficelaw04_SpanNormal.B10 : List Nat := [0, 1, 0, 4, 15, 31, 63, 127, 255, 511, 511, 1535, 4095, 8191, 16383, 511, 33279, 131071, 262143, 524287]
theorem wageofficelaw04_SpanNormal.tab10 : rtab .any (opsOf Try.f4 10) = wageofficelaw04_SpanNormal.T10 := by kernel_rfl
theorem wageofficelaw04_SpanNormal.bits10 : waitsOk wageofficelaw04_SpanNormal.T10.2 wageofficelaw04_SpanNormal.B10 = true := by kernel_rfl
def wageofficelaw04_SpanNormal.T19 : Bool × List (List Nat × List Nat) := (true, [([], []), ([0], [0]), ([1, 1], [1]), ([2], [2]), ([2], [2]), ([4, 2], [2, 4]), ([2], [2]), ([5, 6, 2], [2, 5, 6]), ([3, 7, 2, 2], [2, 3, 7]), ([2], [2]), ([2], [2]), ([10, 2], [2, 10]), ([2], [2]), ([11, 12, 2], [2, 11, 12]), ([9, 13, 8, 2], [2, 9, 13]), ([8, 14, 2], [2, 8, 14]), ([15, 14, 2], [2, 15]), ([16], [16]), ([16], [16]), ([18, 16], [16, 18]), ([16], [16]), ([19, 20, 16], [16, 19, 20]), ([17, 21, 16, 16], [16, 17, 21]), ([16], [16]), ([16], [16]), ([24, 16], [16, 24]), ([16], [16]), ([25, 26, 16], [16, 25, 26]), ([23, 27, 22, 16], [16, 23, 27]), ([22, 28, 16], [16, 22, 28]), ([16, 29, 2], [2, 16, 29]), ([2, 30], [2, 30])])
def wageofficelaw04_SpanNormal.B19 : List Nat := [0, 1, 3, 7, 7, 23, 7, 119, 255, 7, 7, 1031, 7, 7175, 16383, 32767, 65535, 131071, 131071, 393215, 131071, 1966079, 4194303, 131071, 131071, 16908287, 131071, 117571583, 268435455, 536870911, 1073741823, 2147483647]
theorem wageofficelaw04_SpanNormal.tab19 : rtab .any (opsOf Try.f4 19) = wageofficelaw04_SpanNormal.T19 := by kernel_rfl
theorem wageofficelaw04_SpanNormal.bits19 : waitsOk wageofficelaw04_SpanNormal.T19.2 wageofficelaw04_SpanNormal.B19 = true := by kernel_rfl
set_option maxHeartbeats 8000000 in
set_option maxRecDepth 100000 in
theorem wageofficelaw04_SpanNormal.calls (k : Nat) (P0_ : Nat → Prop) (A0 : Option Addr) (c0 : Nat) (l0 : List (S33)) (a1 : Int) (a2 : Int) (r : Bool) (w : World) (hs0 : Kd.V k33 33 w w.heap.size (fun k_ => P0_ k_) (.slice A0 l0.length c0) l0) (h : wageofficelaw04_SpanNormal.f k l0 a1 a2 = some r) :
    Calls Try.prog 4 #[.slice A0 l0.length c0, .int .u8 a1, .int .u8 a2] w fun e w' => e = .returned (.bool r) ∧ Below w.heap.size w w' := by
  have hu33 := Try.underlying33
  have HO0 := Aside0.mk (show Kd.V k33 33 w w.heap.size (fun k_ => (P0_ k_ ∨ w.heap.size ≤ k_)) (.slice A0 l0.length c0) l0 from Kd.V_mono hs0 (fun k_ hk => .inl hk))
  have HB := Aside0.mk (Below.refl w.heap.size w)
  have H : ((wageofficelaw04_head.f k).bind fun t329 => ((wageofficelaw04_short.f k (([l0] : List (List (S33))))).bind fun t333 => (if t333 = true then ((span_Normal.f k l0).bind fun t334 => ((span_Valid.f k t334).bind fun t337 => (if t337 = true then ((span_Normal.f k t334).bind fun t338 => ((wageofficeref04_Same.f k t338 t334).bind fun t341 => (if t341 = true then ((span_Valid.f k l0).bind fun t342 => ((wageofficeref04_Same.f k t334 l0).bind fun t343 => (wageofficelaw04_SpanNormal.j0 k l0 a1 a2 t329 t334 (t342 != t343)))) else (wageofficelaw04_SpanNormal.j0 k l0 a1 a2 t329 t334 true)))) else (wageofficelaw04_SpanNormal.j0 k l0 a1 a2 t329 t334 true)))) else (some t329)))) = some r := h
  clear h
  replace H := Option.bind_eq_some_iff.mp H
  obtain ⟨t329, A40, H⟩ := H
  replace H : ((wageofficelaw04_short.f k (([l0] : List (List (S33))))).bind fun t333 => (if t333 = true then ((span_Normal.f k l0).bind fun t334 => ((span_Valid.f k t334).bind fun t337 => (if t337 = true then ((span_Normal.f k t334).bind fun t338 => ((wageofficeref04_Same.f k t338 t334).bind fun t341 => (if t341 = true then ((span_Valid.f k l0).bind fun t342 => ((wageofficeref04_Same.f k t334 l0).bind fun t343 => (wageofficelaw04_SpanNormal.j0 k l0 a1 a2 t329 t334 (t342 != t343)))) else (wageofficelaw04_SpanNormal.j0 k l0 a1 a2 t329 t334 true)))) else (wageofficelaw04_SpanNormal.j0 k l0 a1 a2 t329 t334 true)))) else (some t329))) = some r := H
  have A4 := Aside0.mk A40
  clear A40
  obtain ⟨y330, hy330⟩ : ∃ y_ : List (List (S33)), y_ = (([l0] : List (List (S33)))) := ⟨_, rfl⟩
  replace H : ((wageofficelaw04_short.f k y330).bind fun t333 => (if t333 = true then ((span_Normal.f k l0).bind fun t334 => ((span_Valid.f k t334).bind fun t337 => (if t337 = true then ((span_Normal.f k t334).bind fun t338 => ((wageofficeref04_Same.f k t338 t334).bind fun t341 => (if t341 = true then ((span_Valid.f k l0).bind fun t342 => ((wageofficeref04_Same.f k t334 l0).bind fun t343 => (wageofficelaw04_SpanNormal.j0 k l0 a1 a2 t329 t334 (t342 != t343)))) else (wageofficelaw04_SpanNormal.j0 k l0 a1 a2 t329 t334 true)))) else (wageofficelaw04_SpanNormal.j0 k l0 a1 a2 t329 t334 true)))) else (some t329))) = some r := by first | (rw [hy330]; with_reducible exact H) | (have H2_ := (Option.bind_some _ _).symm.trans H; rw [hy330]; with_reducible exact H2_) | (have H2_ := (Option.bind_some _ _).symm.trans H; with_reducible exact H2_) | with_reducible exact H | (rw [hy330]; exact H) | exact H
  have Ny330 := Aside0.mk hy330
  clear hy330
  replace H := Option.bind_eq_some_iff.mp H
  obtain ⟨t333, A50, H⟩ := H
  replace H : (if t333 = true then ((span_Normal.f k l0).bind fun t334 => ((span_Valid.f k t334).bind fun t337 => (if t337 = true then ((span_Normal.f k t334).bind fun t338 => ((wageofficeref04_Same.f k t338 t334).bind fun t341 => (if t341 = true then ((span_Valid.f k l0).bind fun t342 => ((wageofficeref04_Same.f k t334 l0).bind fun t343 => (wageofficelaw04_SpanNormal.j0 k l0 a1 a2 t329 t334 (t342 != t343)))) else (wageofficelaw04_SpanNormal.j0 k l0 a1 a2 t329 t334 true)))) else (wageofficelaw04_SpanNormal.j0 k l0 a1 a2 t329 t334 true)))) else (some t329)) = some r := H
  have A5 := Aside0.mk A50
  clear A50
  by_cases c6 : t333 = true
  · subst c6
    have H1 : ((span_Normal.f k l0).bind fun t334 => ((span_Valid.f k t334).bind fun t337 => (if t337 = true then ((span_Normal.f k t334).bind fun t338 => ((wageofficeref04_Same.f k t338 t334).bind fun t341 => (if t341 = true then ((span_Valid.f k l0).bind fun t342 => ((wageofficeref04_Same.f k t334 l0).bind fun t343 => (wageofficelaw04_SpanNormal.j0 k l0 a1 a2 t329 t334 (t342 != t343)))) else (wageofficelaw04_SpanNormal.j0 k l0 a1 a2 t329 t334 true)))) else (wageofficelaw04_SpanNormal.j0 k l0 a1 a2 t329 t334 true)))) = some r := by rw [if_pos rfl] at H; exact H
    clear H
    have H := H1
    clear H1
    replace H := Option.bind_eq_some_iff.mp H
    obtain ⟨t334, A70, H⟩ := H
    replace H : ((span_Valid.f k t334).bind fun t337 => (if t337 = true then ((span_Normal.f k t334).bind fun t338 => ((wageofficeref04_Same.f k t338 t334).bind fun t341 => (if t341 = true then ((span_Valid.f k l0).bind fun t342 => ((wageofficeref04_Same.f k t334 l0).bind fun t343 => (wageofficelaw04_SpanNormal.j0 k l0 a1 a2 t329 t334 (t342 != t343)))) else (wageofficelaw04_SpanNormal.j0 k l0 a1 a2 t329 t334 true)))) else (wageofficelaw04_SpanNormal.j0 k l0 a1 a2 t329 t334 true))) = some r := H
    have A7 := Aside0.mk A70
    clear A70
    have HC8 := Aside0.mk H
    clear H
    go_enter Try.func4, Try.ntmps4
    go_upto_region 5 with (first | ((with_reducible refine gate_callee (f := 10) rfl ?_); refine goesL_ (some 15) rfl rfl Try.func10 (by kernel_rfl) rfl #[] rfl (by (try simp only [List.map_toArray, List.map_cons, List.map_nil]); first | done | rfl | (simp only [List.length_drop, List.length_take]; rfl)) ?_; (with_reducible refine (wageofficelaw04_head.calls k  t329 _ A4.out).mono ?_); rintro e w9 ⟨rfl, hb⟩; refine ⟨_, rfl, ?_⟩; have n0_ := Aside0.mk (Kd.V_below (by (with_reducible repeat (first | apply Kd.V_alloc | apply Kd.V_drewN | apply Kd.V_drew)); exact HO0.out) hb); have n1_ := Aside0.mk (below_step (by repeat (first | (with_reducible first | exact HB.out | apply below_alloc | apply pw_below_drewN | apply below_drew1) | exact HB.out)) hb); clear HO0; clear HB; have HO0 := n0_; have HB := n1_; clear n0_ n1_; (try clear hb); (try clear hb2); (try clear hk); (try clear hi)) | ((with_reducible refine gate_dst (N := 17) rfl ?_); refine Kd.N_lit (Kd.slice 33 k33) _ 22 ?hg (N' := 17) ?hd (xs := ([l0] : List (List (S33)))) (inner := [.slice A0 l0.length c0]) (ok := (fun k_ => (P0_ k_ ∨ w.heap.size ≤ k_))) (okp := (fun k_ => (P0_ k_ ∨ w.heap.size ≤ k_))) ?hr ?hp (fun _ hk => hk) ((show ∀ k_, w9.heap.size ≤ k_ → (fun k_ => (P0_ k_ ∨ w.heap.size ≤ k_)) k_ from fun k_ hk => (.inr (Nat.le_trans (below_size (by repeat (first | (with_reducible first | exact HB.out | apply below_alloc | apply pw_below_drewN | apply below_drew1) | exact HB.out))) hk))) _ (Nat.le_refl _)) (Below.refl _ _) (Nat.le_refl _) (by simp) ?_; (case hd => rfl); (case hg => rfl); (case hr => first | (go_simp; done) | (go_simp; rfl)); (case hp => exact (Reps.one (show Kd.FK (Kd.slice 33 k33) _ _ l0 [.slice A0 l0.length c0] from (Kd.FK_slice_mk (Kd.V_reads' (Kd.V_mono (ok' := (fun k_ => (P0_ k_ ∨ w.heap.size ≤ k_))) (HO0.out) (fun k_ hk => hk))).2.1 (Kd.V_F (Kd.V_mono (ok' := (fun k_ => (P0_ k_ ∨ w.heap.size ≤ k_))) (HO0.out) (fun k_ hk => hk))))) (Reps.none _ _))); intro v331 w10 ho11 hb hg_ hnew_; clear hg_ hnew_; (first | rw [← Ny330.out] at ho11 | (simp only [Int.reduceToNat] at ho11; rw [← Ny330.out] at ho11)); have n0_ := Aside0.mk (Kd.V_elder' (by (with_reducible repeat (first | apply Kd.V_alloc | apply Kd.V_drewN | apply Kd.V_drew)); exact HO0.out) (Kd.N_base ho11) hb); have n1_ := Aside0.mk (Kd.N_lower ho11 (below_size (by repeat (first | (with_reducible first | exact HB.out | apply below_alloc | apply pw_below_drewN | apply below_drew1) | exact HB.out)))); have n2_ := Aside0.mk (below_step (by repeat (first | (with_reducible first | exact HB.out | apply below_alloc | apply pw_below_drewN | apply below_drew1) | exact HB.out)) hb); clear HO0; clear HB; have HO0 := n0_; have HO332 := n1_; have HB := n2_; clear n0_ n1_ n2_; clear hb ho11; obtain ⟨Ao12, co12, eo12⟩ := Kd.N_slice HO332.out; subst eo12) | ((with_reducible refine gate_callee (f := 11) rfl ?_); refine goesL_ (some 18) rfl rfl Try.func11 (by kernel_rfl) rfl #[.slice Ao12 y330.length co12] rfl (by (try simp only [List.map_toArray, List.map_cons, List.map_nil]); first | done | rfl | (simp only [List.length_drop, List.length_take]; rfl)) ?_; (with_reducible refine (wageofficelaw04_short.calls k _ _ y330 true _ ?side1 ?side2 A5.out).mono ?_); (case side1 => repeat (first | exact (Kd.N_reads' HO332.out).2.2 | (with_reducible refine Kd.C_alloc ?_ _) | (with_reducible refine Kd.C_drewN ?_ _) | (with_reducible refine Kd.C_drew ?_))); (case side2 => exact (Kd.N_reads' HO332.out).2.1); rintro e w' ⟨rfl, ⟨nd, rfl⟩⟩; refine ⟨_, rfl, ?_⟩) | ((with_reducible refine gate_callee (f := 15) rfl ?_); refine goesL_ (some 22) rfl rfl Try.func15 (by kernel_rfl) rfl #[.slice A0 l0.length c0] rfl (by (try simp only [List.map_toArray, List.map_cons, List.map_nil]); first | done | rfl | (simp only [List.length_drop, List.length_take]; rfl)) ?_; (with_reducible refine (span_Normal.calls k _ _ l0 t334 _ ?side1 ?side2 A7.out).mono ?_); (case side1 => repeat (first | exact (Kd.V_reads' HO0.out).2.2 | (with_reducible refine Kd.C_alloc ?_ _) | (with_reducible refine Kd.C_drewN ?_ _) | (with_reducible refine Kd.C_drew ?_))); (case side2 => exact (Kd.V_reads' HO0.out).2.1); rintro e w13 ⟨v335, rfl, ho0, hb⟩; refine ⟨_, rfl, ?_⟩; have n0_ := Aside0.mk (Kd.V_elder' (by (with_reducible repeat (first | apply Kd.V_alloc | apply Kd.V_drewN | apply Kd.V_drew)); exact HO0.out) (Kd.R_base ho0) hb); have n1_ := Aside0.mk (Kd.N_elder' (by (with_reducible repeat (first | apply Kd.N_alloc | apply Kd.N_drewN | apply Kd.N_drew)); exact HO332.out) (Kd.R_base ho0) hb); have n2_ := Aside0.mk (Kd.R_lower (Kd.R_newM (M := fun k_ => (w.heap.size ≤ k_)) ho0 (below_size (by repeat (first | (with_reducible first | exact HB.out | apply below_alloc | apply pw_below_drewN | apply below_drew1) | exact HB.out))) (fun k_ h_ => h_)) (below_size (by repeat (first | (with_reducible first | exact HB.out | apply below_alloc | apply pw_below_drewN | apply below_drew1) | exact HB.out)))); have n3_ := Aside0.mk (below_step (by repeat (first | (with_reducible first | exact HB.out | apply below_alloc | apply pw_below_drewN | apply below_drew1) | exact HB.out)) hb); clear HO0; clear HO332; clear HB; have HO0 := n0_; have HO332 := n1_; have HO336 := n2_; have HB := n3_; clear n0_ n1_ n2_ n3_; (try clear hb); (try clear hb2); (try clear hk); (try clear hi); (try clear ho0)))
    (try simp only [Act.put, List.setIfInBounds_toArray, List.set_cons_zero, List.set_cons_succ])
    go_cut [40] (fun v40 wc => ∃ (kq : Nat) (x40_7 : Bool), v40 = .bool x40_7 ∧ Aside0 (wageofficelaw04_SpanNormal.j0 kq l0 a1 a2 t329 t334 x40_7 = some r) ∧ Aside0 (kq ≤ k) ∧ Aside0 (Kd.V k33 33 wc w.heap.size (fun k_ => (P0_ k_ ∨ w.heap.size ≤ k_) ∧ some k_ ≠ (v335 : Value).ownBlock) (.slice A0 l0.length c0) l0) ∧ Aside0 (Kd.R k33 33 wc w.heap.size (fun k_ => (w.heap.size ≤ k_)) v335 t334) ∧ Aside0 (Below w.heap.size w wc))
    case first =>
      have H := HC8.out
      clear HC8
      replace H := Option.bind_eq_some_iff.mp H
      obtain ⟨t337, A140, H⟩ := H
      replace H : (if t337 = true then ((span_Normal.f k t334).bind fun t338 => ((wageofficeref04_Same.f k t338 t334).bind fun t341 => (if t341 = true then ((span_Valid.f k l0).bind fun t342 => ((wageofficeref04_Same.f k t334 l0).bind fun t343 => (wageofficelaw04_SpanNormal.j0 k l0 a1 a2 t329 t334 (t342 != t343)))) else (wageofficelaw04_SpanNormal.j0 k l0 a1 a2 t329 t334 true)))) else (wageofficelaw04_SpanNormal.j0 k l0 a1 a2 t329 t334 true)) = some r := H
      have A14 := Aside0.mk A140
      clear A140
      by_cases c15 : t337 = true
      · subst c15
        have H1 : ((span_Normal.f k t334).bind fun t338 => ((wageofficeref04_Same.f k t338 t334).bind fun t341 => (if t341 = true then ((span_Valid.f k l0).bind fun t342 => ((wageofficeref04_Same.f k t334 l0).bind fun t343 => (wageofficelaw04_SpanNormal.j0 k l0 a1 a2 t329 t334 (t342 != t343)))) else (wageofficelaw04_SpanNormal.j0 k l0 a1 a2 t329 t334 true)))) = some r := by rw [if_pos rfl] at H; exact H
        clear H
        have H := H1
        clear H1
        replace H := Option.bind_eq_some_iff.mp H
        obtain ⟨t338, A160, H⟩ := H
        replace H : ((wageofficeref04_Same.f k t338 t334).bind fun t341 => (if t341 = true then ((span_Valid.f k l0).bind fun t342 => ((wageofficeref04_Same.f k t334 l0).bind fun t343 => (wageofficelaw04_SpanNormal.j0 k l0 a1 a2 t329 t334 (t342 != t343)))) else (wageofficelaw04_SpanNormal.j0 k l0 a1 a2 t329 t334 true))) = some r := H
        have A16 := Aside0.mk A160
        clear A160
        replace H := Option.bind_eq_some_iff.mp H
        obtain ⟨t341, A170, H⟩ := H
        replace H : (if t341 = true then ((span_Valid.f k l0).bind fun t342 => ((wageofficeref04_Same.f k t334 l0).bind fun t343 => (wageofficelaw04_SpanNormal.j0 k l0 a1 a2 t329 t334 (t342 != t343)))) else (wageofficelaw04_SpanNormal.j0 k l0 a1 a2 t329 t334 true)) = some r := H
        have A17 := Aside0.mk A170
        clear A170
        by_cases c18 : t341 = true
        · subst c18
          have H1 : ((span_Valid.f k l0).bind fun t342 => ((wageofficeref04_Same.f k t334 l0).bind fun t343 => (wageofficelaw04_SpanNormal.j0 k l0 a1 a2 t329 t334 (t342 != t343)))) = some r := by rw [if_pos rfl] at H; exact H
          clear H
          have H := H1
          clear H1
          replace H := Option.bind_eq_some_iff.mp H
          obtain ⟨t342, A190, H⟩ := H
          replace H : ((wageofficeref04_Same.f k t334 l0).bind fun t343 => (wageofficelaw04_SpanNormal.j0 k l0 a1 a2 t329 t334 (t342 != t343))) = some r := H
          have A19 := Aside0.mk A190
          clear A190
          replace H := Option.bind_eq_some_iff.mp H
          obtain ⟨t343, A200, H⟩ := H
          replace H : (wageofficelaw04_SpanNormal.j0 k l0 a1 a2 t329 t334 (t342 != t343)) = some r := H
          have A20 := Aside0.mk A200
          clear A200
          have H' := Aside0.mk H
          clear H
          obtain ⟨Ao21, co21, eo21⟩ := Kd.R_slice HO336.out
          subst eo21
          go_wp2_with (first | ((with_reducible refine gate_callee (f := 12) rfl ?_); refine goesL_ (some 24) rfl rfl Try.func12 (by kernel_rfl) rfl #[.slice Ao21 t334.length co21] rfl (by (try simp only [List.map_toArray, List.map_cons, List.map_nil]); first | done | rfl | (simp only [List.length_drop, List.length_take]; rfl)) ?_; (with_reducible refine (span_Valid.calls k _ _ t334 true _ ?side1 ?side2 A14.out).mono ?_); (case side1 => repeat (first | exact (Kd.R_reads' HO336.out).2.2 | (with_reducible refine Kd.C_alloc ?_ _) | (with_reducible refine Kd.C_drewN ?_ _) | (with_reducible refine Kd.C_drew ?_))); (case side2 => exact (Kd.R_reads' HO336.out).2.1); rintro e w22 ⟨rfl, hb⟩; refine ⟨_, rfl, ?_⟩; have n0_ := Aside0.mk (Kd.V_below (by (with_reducible repeat (first | apply Kd.V_alloc | apply Kd.V_drewN | apply Kd.V_drew)); exact HO0.out) hb); have n1_ := Aside0.mk (Kd.N_below (by (with_reducible repeat (first | apply Kd.N_alloc | apply Kd.N_drewN | apply Kd.N_drew)); exact HO332.out) hb); have n2_ := Aside0.mk (Kd.R_below (by (with_reducible repeat (first | apply Kd.R_alloc | apply Kd.R_drewN | apply Kd.R_drew)); exact HO336.out) hb); have n3_ := Aside0.mk (below_step (by repeat (first | (with_reducible first | exact HB.out | apply below_alloc | apply pw_below_drewN | apply below_drew1) | exact HB.out)) hb); clear HO0; clear HO332; clear HO336; clear HB; have HO0 := n0_; have HO332 := n1_; have HO336 := n2_; have HB := n3_; clear n0_ n1_ n2_ n3_; (try clear hb); (try clear hb2); (try clear hk); (try clear hi)) | (go_at_call 15; (with_reducible refine (span_Normal.calls k _ _ t334 t338 _ ?side1 ?side2 A16.out).mono ?_); (case side1 => repeat (first | exact (Kd.R_reads' HO336.out).2.2 | (with_reducible refine Kd.C_alloc ?_ _) | (with_reducible refine Kd.C_drewN ?_ _) | (with_reducible refine Kd.C_drew ?_))); (case side2 => exact (Kd.R_reads' HO336.out).2.1); rintro e w23 ⟨v339, rfl, ho0, hb⟩; have n0_ := Aside0.mk (Kd.V_elder' (by (with_reducible repeat (first | apply Kd.V_alloc | apply Kd.V_drewN | apply Kd.V_drew)); exact HO0.out) (Kd.R_base ho0) hb); have n1_ := Aside0.mk (Kd.N_elder' (by (with_reducible repeat (first | apply Kd.N_alloc | apply Kd.N_drewN | apply Kd.N_drew)); exact HO332.out) (Kd.R_base ho0) hb); have n2_ := Aside0.mk (Kd.R_elder' (by (with_reducible repeat (first | apply Kd.R_alloc | apply Kd.R_drewN | apply Kd.R_drew)); exact HO336.out) (Kd.R_base ho0) hb); have n3_ := Aside0.mk (Kd.R_lower (Kd.R_new' (Kd.R_newM (M := fun k_ => (w.heap.size ≤ k_)) ho0 (below_size (by repeat (first | (with_reducible first | exact HB.out | apply below_alloc | apply pw_below_drewN | apply below_drew1) | exact HB.out))) (fun k_ h_ => h_)) (Kd.R_lt (by (with_reducible repeat (first | apply Kd.R_alloc | apply Kd.R_drewN | apply Kd.R_drew)); exact HO336.out))) (below_size (by repeat (first | (with_reducible first | exact HB.out | apply below_alloc | apply pw_below_drewN | apply below_drew1) | exact HB.out)))); have n4_ := Aside0.mk (below_step (by repeat (first | (with_reducible first | exact HB.out | apply below_alloc | apply pw_below_drewN | apply below_drew1) | exact HB.out)) hb); clear HO0; clear HO332; clear HO336; clear HB; have HO0 := n0_; have HO332 := n1_; have HO336 := n2_; have HO340 := n3_; have HB := n4_; clear n0_ n1_ n2_ n3_ n4_; (try clear hb); (try clear hb2); (try clear hk); (try clear hi); (try clear ho0); obtain ⟨Ao24, co24, eo24⟩ := Kd.R_slice HO340.out; subst eo24) | (go_at_call 14; (with_reducible refine (wageofficeref04_Same.calls k _ _ t338 _ _ t334 true _ ?side1 ?side2 ?side3 ?side4 A17.out).mono ?_); (case side1 => repeat (first | exact (Kd.R_reads' HO340.out).2.2 | (with_reducible refine Kd.C_alloc ?_ _) | (with_reducible refine Kd.C_drewN ?_ _) | (with_reducible refine Kd.C_drew ?_))); (case side2 => exact (Kd.R_reads' HO340.out).2.1); (case side3 => repeat (first | exact (Kd.R_reads' HO336.out).2.2 | (with_reducible refine Kd.C_alloc ?_ _) | (with_reducible refine Kd.C_drewN ?_ _) | (with_reducible refine Kd.C_drew ?_))); (case side4 => exact (Kd.R_reads' HO336.out).2.1); rintro e w' ⟨rfl, ⟨nd, rfl⟩⟩) | (go_at_call 12; (with_reducible refine (span_Valid.calls k _ _ l0 t342 _ ?side1 ?side2 A19.out).mono ?_); (case side1 => repeat (first | exact (Kd.V_reads' HO0.out).2.2 | (with_reducible refine Kd.C_alloc ?_ _) | (with_reducible refine Kd.C_drewN ?_ _) | (with_reducible refine Kd.C_drew ?_))); (case side2 => exact (Kd.V_reads' HO0.out).2.1); rintro e w25 ⟨rfl, hb⟩; have n0_ := Aside0.mk (Kd.V_below (by (with_reducible repeat (first | apply Kd.V_alloc | apply Kd.V_drewN | apply Kd.V_drew)); exact HO0.out) hb); have n1_ := Aside0.mk (Kd.N_below (by (with_reducible repeat (first | apply Kd.N_alloc | apply Kd.N_drewN | apply Kd.N_drew)); exact HO332.out) hb); have n2_ := Aside0.mk (Kd.R_below (by (with_reducible repeat (first | apply Kd.R_alloc | apply Kd.R_drewN | apply Kd.R_drew)); exact HO336.out) hb); have n3_ := Aside0.mk (Kd.R_below (by (with_reducible repeat (first | apply Kd.R_alloc | apply Kd.R_drewN | apply Kd.R_drew)); exact HO340.out) hb); have n4_ := Aside0.mk (below_step (by repeat (first | (with_reducible first | exact HB.out | apply below_alloc | apply pw_below_drewN | apply below_drew1) | exact HB.out)) hb); clear HO0; clear HO332; clear HO336; clear HO340; clear HB; have HO0 := n0_; have HO332 := n1_; have HO336 := n2_; have HO340 := n3_; have HB := n4_; clear n0_ n1_ n2_ n3_ n4_; (try clear hb); (try clear hb2); (try clear hk); (try clear hi)) | (go_at_call 14; (with_reducible refine (wageofficeref04_Same.calls k _ _ t334 _ _ l0 t343 _ ?side1 ?side2 ?side3 ?side4 A20.out).mono ?_); (case side1 => repeat (first | exact (Kd.R_reads' HO336.out).2.2 | (with_reducible refine Kd.C_alloc ?_ _) | (with_reducible refine Kd.C_drewN ?_ _) | (with_reducible refine Kd.C_drew ?_))); (case side2 => exact (Kd.R_reads' HO336.out).2.1); (case side3 => repeat (first | exact (Kd.V_reads' HO0.out).2.2 | (with_reducible refine Kd.C_alloc ?_ _) | (with_reducible refine Kd.C_drewN ?_ _) | (with_reducible refine Kd.C_drew ?_))); (case side4 => exact (Kd.V_reads' HO0.out).2.1); rintro e w' ⟨rfl, ⟨nd, rfl⟩⟩))
          go_meet
          case rel => exact ⟨_, ((t342 != t343)), (by first | rfl | (simp; done) | (simp [*]; done)), H', ⟨by first | omega | exact Nat.le_refl _⟩, ⟨by (with_reducible repeat (first | apply Kd.V_alloc | apply Kd.V_drewN | apply Kd.V_drew)); exact Kd.V_mono HO0.out (fun _ hk => ⟨hk.1.1.1, hk.1.2⟩)⟩, ⟨by (with_reducible repeat (first | apply Kd.R_alloc | apply Kd.R_drewN | apply Kd.R_drew)); exact Kd.R_mono HO336.out (fun _ hk => hk.1.1)⟩, ⟨by repeat (first | (with_reducible first | exact HB.out | apply below_alloc | apply pw_below_drewN | apply below_drew1) | exact HB.out)⟩⟩
        · replace c18 := Bool.eq_false_iff.mpr c18
          subst c18
          have H1 : (wageofficelaw04_SpanNormal.j0 k l0 a1 a2 t329 t334 true) = some r := by rw [if_neg (show ¬ (false = true) by decide)] at H; exact H
          clear H
          have H := H1
          clear H1
          have H' := Aside0.mk H
          clear H
          obtain ⟨Ao26, co26, eo26⟩ := Kd.R_slice HO336.out
          subst eo26
          go_wp2_with (first | ((with_reducible refine gate_callee (f := 12) rfl ?_); refine goesL_ (some 24) rfl rfl Try.func12 (by kernel_rfl) rfl #[.slice Ao26 t334.length co26] rfl (by (try simp only [List.map_toArray, List.map_cons, List.map_nil]); first | done | rfl | (simp only [List.length_drop, List.length_take]; rfl)) ?_; (with_reducible refine (span_Valid.calls k _ _ t334 true _ ?side1 ?side2 A14.out).mono ?_); (case side1 => repeat (first | exact (Kd.R_reads' HO336.out).2.2 | (with_reducible refine Kd.C_alloc ?_ _) | (with_reducible refine Kd.C_drewN ?_ _) | (with_reducible refine Kd.C_drew ?_))); (case side2 => exact (Kd.R_reads' HO336.out).2.1); rintro e w27 ⟨rfl, hb⟩; refine ⟨_, rfl, ?_⟩; have n0_ := Aside0.mk (Kd.V_below (by (with_reducible repeat (first | apply Kd.V_alloc | apply Kd.V_drewN | apply Kd.V_drew)); exact HO0.out) hb); have n1_ := Aside0.mk (Kd.N_below (by (with_reducible repeat (first | apply Kd.N_alloc | apply Kd.N_drewN | apply Kd.N_drew)); exact HO332.out) hb); have n2_ := Aside0.mk (Kd.R_below (by (with_reducible repeat (first | apply Kd.R_alloc | apply Kd.R_drewN | apply Kd.R_drew)); exact HO336.out) hb); have n3_ := Aside0.mk (below_step (by repeat (first | (with_reducible first | exact HB.out | apply below_alloc | apply pw_below_drewN | apply below_drew1) | exact HB.out)) hb); clear HO0; clear HO332; clear HO336; clear HB; have HO0 := n0_; have HO332 := n1_; have HO336 := n2_; have HB := n3_; clear n0_ n1_ n2_ n3_; (try clear hb); (try clear hb2); (try clear hk); (try clear hi)) | (go_at_call 15; (with_reducible refine (span_Normal.calls k _ _ t334 t338 _ ?side1 ?side2 A16.out).mono ?_); (case side1 => repeat (first | exact (Kd.R_reads' HO336.out).2.2 | (with_reducible refine Kd.C_alloc ?_ _) | (with_reducible refine Kd.C_drewN ?_ _) | (with_reducible refine Kd.C_drew ?_))); (case side2 => exact (Kd.R_reads' HO336.out).2.1); rintro e w28 ⟨v339, rfl, ho0, hb⟩; have n0_ := Aside0.mk (Kd.V_elder' (by (with_reducible repeat (first | apply Kd.V_alloc | apply Kd.V_drewN | apply Kd.V_drew)); exact HO0.out) (Kd.R_base ho0) hb); have n1_ := Aside0.mk (Kd.N_elder' (by (with_reducible repeat (first | apply Kd.N_alloc | apply Kd.N_drewN | apply Kd.N_drew)); exact HO332.out) (Kd.R_base ho0) hb); have n2_ := Aside0.mk (Kd.R_elder' (by (with_reducible repeat (first | apply Kd.R_alloc | apply Kd.R_drewN | apply Kd.R_drew)); exact HO336.out) (Kd.R_base ho0) hb); have n3_ := Aside0.mk (Kd.R_lower (Kd.R_new' (Kd.R_newM (M := fun k_ => (w.heap.size ≤ k_)) ho0 (below_size (by repeat (first | (with_reducible first | exact HB.out | apply below_alloc | apply pw_below_drewN | apply below_drew1) | exact HB.out))) (fun k_ h_ => h_)) (Kd.R_lt (by (with_reducible repeat (first | apply Kd.R_alloc | apply Kd.R_drewN | apply Kd.R_drew)); exact HO336.out))) (below_size (by repeat (first | (with_reducible first | exact HB.out | apply below_alloc | apply pw_below_drewN | apply below_drew1) | exact HB.out)))); have n4_ := Aside0.mk (below_step (by repeat (first | (with_reducible first | exact HB.out | apply below_alloc | apply pw_below_drewN | apply below_drew1) | exact HB.out)) hb); clear HO0; clear HO332; clear HO336; clear HB; have HO0 := n0_; have HO332 := n1_; have HO336 := n2_; have HO340 := n3_; have HB := n4_; clear n0_ n1_ n2_ n3_ n4_; (try clear hb); (try clear hb2); (try clear hk); (try clear hi); (try clear ho0); obtain ⟨Ao29, co29, eo29⟩ := Kd.R_slice HO340.out; subst eo29) | (go_at_call 14; (with_reducible refine (wageofficeref04_Same.calls k _ _ t338 _ _ t334 false _ ?side1 ?side2 ?side3 ?side4 A17.out).mono ?_); (case side1 => repeat (first | exact (Kd.R_reads' HO340.out).2.2 | (with_reducible refine Kd.C_alloc ?_ _) | (with_reducible refine Kd.C_drewN ?_ _) | (with_reducible refine Kd.C_drew ?_))); (case side2 => exact (Kd.R_reads' HO340.out).2.1); (case side3 => repeat (first | exact (Kd.R_reads' HO336.out).2.2 | (with_reducible refine Kd.C_alloc ?_ _) | (with_reducible refine Kd.C_drewN ?_ _) | (with_reducible refine Kd.C_drew ?_))); (case side4 => exact (Kd.R_reads' HO336.out).2.1); rintro e w' ⟨rfl, ⟨nd, rfl⟩⟩))
          go_meet
          case rel => exact ⟨_, (true), (by first | rfl | (simp; done) | (simp [*]; done)), H', ⟨by first | omega | exact Nat.le_refl _⟩, ⟨by (with_reducible repeat (first | apply Kd.V_alloc | apply Kd.V_drewN | apply Kd.V_drew)); exact Kd.V_mono HO0.out (fun _ hk => ⟨hk.1.1.1, hk.1.2⟩)⟩, ⟨by (with_reducible repeat (first | apply Kd.R_alloc | apply Kd.R_drewN | apply Kd.R_drew)); exact Kd.R_mono HO336.out (fun _ hk => hk.1.1)⟩, ⟨by repeat (first | (with_reducible first | exact HB.out | apply below_alloc | apply pw_below_drewN | apply below_drew1) | exact HB.out)⟩⟩
      · replace c15 := Bool.eq_false_iff.mpr c15
        subst c15
        have H1 : (wageofficelaw04_SpanNormal.j0 k l0 a1 a2 t329 t334 true) = some r := by rw [if_neg (show ¬ (false = true) by decide)] at H; exact H
        clear H
        have H := H1
        clear H1
        have H' := Aside0.mk H
        clear H
        obtain ⟨Ao30, co30, eo30⟩ := Kd.R_slice HO336.out
        subst eo30
        go_wp2_with (first | ((with_reducible refine gate_callee (f := 12) rfl ?_); refine goesL_ (some 24) rfl rfl Try.func12 (by kernel_rfl) rfl #[.slice Ao30 t334.length co30] rfl (by (try simp only [List.map_toArray, List.map_cons, List.map_nil]); first | done | rfl | (simp only [List.length_drop, List.length_take]; rfl)) ?_; (with_reducible refine (span_Valid.calls k _ _ t334 false _ ?side1 ?side2 A14.out).mono ?_); (case side1 => repeat (first | exact (Kd.R_reads' HO336.out).2.2 | (with_reducible refine Kd.C_alloc ?_ _) | (with_reducible refine Kd.C_drewN ?_ _) | (with_reducible refine Kd.C_drew ?_))); (case side2 => exact (Kd.R_reads' HO336.out).2.1); rintro e w31 ⟨rfl, hb⟩; refine ⟨_, rfl, ?_⟩; have n0_ := Aside0.mk (Kd.V_below (by (with_reducible repeat (first | apply Kd.V_alloc | apply Kd.V_drewN | apply Kd.V_drew)); exact HO0.out) hb); have n1_ := Aside0.mk (Kd.N_below (by (with_reducible repeat (first | apply Kd.N_alloc | apply Kd.N_drewN | apply Kd.N_drew)); exact HO332.out) hb); have n2_ := Aside0.mk (Kd.R_below (by (with_reducible repeat (first | apply Kd.R_alloc | apply Kd.R_drewN | apply Kd.R_drew)); exact HO336.out) hb); have n3_ := Aside0.mk (below_step (by repeat (first | (with_reducible first | exact HB.out | apply below_alloc | apply pw_below_drewN | apply below_drew1) | exact HB.out)) hb); clear HO0; clear HO332; clear HO336; clear HB; have HO0 := n0_; have HO332 := n1_; have HO336 := n2_; have HB := n3_; clear n0_ n1_ n2_ n3_; (try clear hb); (try clear hb2); (try clear hk); (try clear hi)))
        go_meet
        case rel => exact ⟨_, (true), (by first | rfl | (simp; done) | (simp [*]; done)), H', ⟨by first | omega | exact Nat.le_refl _⟩, ⟨by (with_reducible repeat (first | apply Kd.V_alloc | apply Kd.V_drewN | apply Kd.V_drew)); exact Kd.V_mono HO0.out (fun _ hk => ⟨hk.1.1, hk.2⟩)⟩, ⟨by (with_reducible repeat (first | apply Kd.R_alloc | apply Kd.R_drewN | apply Kd.R_drew)); exact Kd.R_mono HO336.out (fun _ hk => hk.1)⟩, ⟨by repeat (first | (with_reducible first | exact HB.out | apply below_alloc | apply pw_below_drewN | apply below_drew1) | exact HB.out)⟩⟩
    case rest =>
      clear HC8
      try clear c1
      try clear p2
      try clear c4
      try clear c6
      try clear c10
      try clear c11
      try clear c12
      try clear c15
      try clear c18
      obtain ⟨kq, x40_7, rfl, HA, HJ7, HO_0, HO_8, HB⟩ := hcut
      cases kq with
      | zero => exact absurd HA.out (by simp [wageofficelaw04_SpanNormal.j0])
      | succ kj7 =>
        have H := HA.out
        clear HA
        simp only [wageofficelaw04_SpanNormal.j0] at H
        by_cases c32 : x40_7 = true
        · subst c32
          have H1 : (none) = some r := by rw [if_pos rfl] at H; exact H
          clear H
          have H := H1
          clear H1
          exact absurd H (by simp)
        · replace c32 := Bool.eq_false_iff.mpr c32
          subst c32
          have H1 : (wageofficelaw04_SpanNormal.l0 kj7 l0 a1 a2 t329 t334 t334 (t334.length : Int) 0) = some r := by rw [if_neg (show ¬ (false = true) by decide)] at H; exact H
          clear H
          have H := H1
          clear H1
          have H' := Aside0.mk H
          clear H
          obtain ⟨Ao33, co33, eo33⟩ := Kd.R_slice HO_8.out
          subst eo33
          go_wp2
          go_loopg [43] kj7 (fun kq v43 w' => ∃ (x43_2 : Int), v43 = .int .i64 x43_2 ∧ Aside0 (wageofficelaw04_SpanNormal.l0 kq l0 a1 a2 t329 t334 t334 (t334.length : Int) x43_2 = some r) ∧ Aside0 (kq ≤ kj7) ∧ Aside0 (Kd.V k33 33 w' w.heap.size (fun k_ => (P0_ k_ ∨ w.heap.size ≤ k_) ∧ some k_ ≠ ((.slice Ao33 t334.length co33) : Value).ownBlock ∧ some k_ ≠ ((.slice Ao33 t334.length co33) : Value).ownBlock) (.slice A0 l0.length c0) l0) ∧ Aside0 (Kd.R k33 33 w' w.heap.size (fun k_ => (w.heap.size ≤ k_)) (.slice Ao33 t334.length co33) t334) ∧ Aside0 (Kd.R k33 33 w' w.heap.size (fun k_ => (w.heap.size ≤ k_)) (.slice Ao33 t334.length co33) t334) ∧ Aside0 (Below w.heap.size w w'))
          case atStart => exact ⟨(0), (by first | rfl | (simp; done) | (simp [*]; done)), H', ⟨Nat.le_refl _⟩, ⟨by (with_reducible repeat (first | apply Kd.V_alloc | apply Kd.V_drewN | apply Kd.V_drew)); exact Kd.V_mono HO_0.out (fun _ hk => ⟨hk.1, ⟨hk.2, hk.2⟩⟩)⟩, ⟨by (with_reducible repeat (first | apply Kd.R_alloc | apply Kd.R_drewN | apply Kd.R_drew)); exact HO_8.out⟩, ⟨by (with_reducible repeat (first | apply Kd.R_alloc | apply Kd.R_drewN | apply Kd.R_drew)); exact HO_8.out⟩, ⟨by repeat (first | (with_reducible first | exact HB.out | apply below_alloc | apply pw_below_drewN | apply below_drew1) | exact HB.out)⟩⟩
          case round =>
            clear H'
            try clear c1
            try clear p2
            try clear c3
            try clear c4
            try clear c6
            try clear c10
            try clear c11
            try clear c12
            try clear c15
            try clear c18
            try clear c32
            try clear p2
            obtain ⟨x43_2, rfl, HA, HK2, HO_0, HO_8, HO_41, HB⟩ := hrel
            cases gk with
            | zero => exact absurd HA.out (by simp [wageofficelaw04_SpanNormal.l0])
            | succ k2 =>
              have H := HA.out
              clear HA
              simp only [wageofficelaw04_SpanNormal.l0] at H
              by_cases c34 : x43_2 < (t334.length : Int)
              · rw [if_pos c34] at H
                have c34b0 : decide (x43_2 < (t334.length : Int)) = true := decide_eq_true c34
                clear c34
                by_cases c35 : 0 ≤ x43_2
                · rw [if_pos c35] at H
                  have c35b0 : decide (0 ≤ x43_2) = true := decide_eq_true c35
                  clear c35
                  by_cases c36 : x43_2 < (t334.length : Int)
                  · rw [if_pos c36] at H
                    have c36b0 : decide (x43_2 < (t334.length : Int)) = true := decide_eq_true c36
                    clear c36
                    by_cases c37 : ((rd_T33 t334 x43_2).f0) ≥ ((rd_T33 t334 x43_2).f1)
                    · rw [if_pos c37] at H
                      have c37b0 : decide (((rd_T33 t334 x43_2).f1) ≤ ((rd_T33 t334 x43_2).f0)) = true := decide_eq_true c37
                      clear c37
                      exact absurd H (by simp)
                    · rw [if_neg c37] at H
                      have c37b0 : decide (((rd_T33 t334 x43_2).f1) ≤ ((rd_T33 t334 x43_2).f0)) = false := decide_eq_false c37
                      clear c37
                      by_cases c38 : x43_2 > 0
                      · rw [if_pos c38] at H
                        have c38b0 : decide (0 < x43_2) = true := decide_eq_true c38
                        clear c38
                        obtain ⟨ji39, hji39⟩ : ∃ j_ : Int, (wrap64 (x43_2 - 1)) = j_ := ⟨_, rfl⟩
                        replace H : (if 0 ≤ (ji39) then (if (ji39) < (t334.length : Int) then (if ((rd_T33 t334 (ji39)).f1) ≥ ((rd_T33 t334 x43_2).f0) then (none) else (wageofficelaw04_SpanNormal.l0 k2 l0 a1 a2 t329 t334 t334 (t334.length : Int) (wrap64 (x43_2 + 1)))) else (none)) else (none)) = some r := by first | (rw [hji39] at H; exact H) | (simp only [hji39] at H ⊢; exact H)
                        have hji39w : (IntKind.i64.wrap (x43_2 - 1)) = ji39 := (i64_w _).trans hji39
                        by_cases c40 : 0 ≤ (ji39)
                        · rw [if_pos c40] at H
                          have c40b0 : decide (0 ≤ (ji39)) = true := decide_eq_true c40
                          clear c40
                          by_cases c41 : (ji39) < (t334.length : Int)
                          · rw [if_pos c41] at H
                            have c41b0 : decide ((ji39) < (t334.length : Int)) = true := decide_eq_true c41
                            clear c41
                            by_cases c42 : ((rd_T33 t334 (ji39)).f1) ≥ ((rd_T33 t334 x43_2).f0)
                            · rw [if_pos c42] at H
                              exact absurd H (by simp)
                            · rw [if_neg c42] at H
                              have c42b0 : decide (((rd_T33 t334 x43_2).f0) ≤ ((rd_T33 t334 (ji39)).f1)) = false := decide_eq_false c42
                              clear c42
                              have H' := Aside0.mk H
                              clear H
                              have p344 : 0 ≤ (x43_2 : Int) := of_decide_eq_true (by first | (with_reducible assumption) | assumption)
                              have q344 : x43_2 < (t334.length : Int) := of_decide_eq_true (by first | (with_reducible assumption) | assumption)
                              obtain ⟨ad344, e344, hx344_0, hx344_1⟩ := at_T33 (Kd.R_reads' HO_41.out).2.2 x43_2 p344 q344
                              cases e344
                              replace p344 := eq_true p344
                              replace q344 := eq_true q344
                              try go_wp2_with (first | ((with_reducible refine gate_dst (N := 10) rfl ?_); refine box_event ?hg (N := 10) ?hd (cs := #[.int .i64 0, .int .i64 0]) (t := 33) ?hr ?_; (case hd => rfl); (case hg => rfl); (case hr => first | (go_simp; done) | (go_simp; rfl)); intro gb345 hg w43 hbox hb; have n0_ := Aside0.mk (Kd.V_below (Kd.V_elderB (by (with_reducible repeat (first | apply Kd.V_alloc | apply Kd.V_drewN | apply Kd.V_drew)); exact HO_0.out) gb345 (Nat.le_of_eq hg.symm)) hb); have n1_ := Aside0.mk (Kd.R_below (Kd.R_elderB (by (with_reducible repeat (first | apply Kd.R_alloc | apply Kd.R_drewN | apply Kd.R_drew)); exact HO_8.out) gb345 (Nat.le_of_eq hg.symm)) hb); have n2_ := Aside0.mk (Kd.R_below (Kd.R_elderB (by (with_reducible repeat (first | apply Kd.R_alloc | apply Kd.R_drewN | apply Kd.R_drew)); exact HO_41.out) gb345 (Nat.le_of_eq hg.symm)) hb); have n3_ := Aside0.mk (below_step (by repeat (first | (with_reducible first | exact HB.out | apply below_alloc | apply pw_below_drewN | apply below_drew1) | exact HB.out)) hb); have n4_ := Aside0.mk (hbox); have n5_ := Aside0.mk ((by rw [hg]; exact (below_size (by repeat (first | (with_reducible first | exact HB.out | apply below_alloc | apply pw_below_drewN | apply below_drew1) | exact HB.out))) : w.heap.size ≤ gb345)); have n6_ := Aside0.mk ((by rw [hg]; exact (below_size (by repeat (first | (with_reducible first | exact HB.out | apply below_alloc | apply pw_below_drewN | apply below_drew1) | exact HB.out))) : w.heap.size ≤ gb345)); clear HO_0; clear HO_8; clear HO_41; clear HB; have HO_0 := n0_; have HO_8 := n1_; have HO_41 := n2_; have HB := n3_; have BK345 := n4_; have GW345 := n5_; have GE345 := n6_; clear n0_ n1_ n2_ n3_ n4_ n5_ n6_; clear hb hbox hg; have hcz44_0 : w43.cell? ⟨gb345, 0, none⟩ = some (.int .i64 0) := (blk_cell BK345.out 0).trans rfl; have hcz44_1 : w43.cell? ⟨gb345, 1, none⟩ = some (.int .i64 0) := (blk_cell BK345.out 1).trans rfl; have hfz44_0 := blk_frozen BK345.out 0; have hfz44_1 := blk_frozen BK345.out 1))
                              have n0_ : Aside0 (Kd.V k33 33 ((w43.setCell ⟨gb345, 0, none⟩ (.int .i64 ((rd_T33 t334 x43_2).f0))).setCell ⟨gb345, 1, none⟩ (.int .i64 ((rd_T33 t334 x43_2).f1))) w.heap.size (fun k_ => (P0_ k_ ∨ w.heap.size ≤ k_) ∧ some k_ ≠ (.slice (some ad344) t334.length co33 : Value).ownBlock ∧ some k_ ≠ (.slice (some ad344) t334.length co33 : Value).ownBlock ∧ k_ ≠ gb345) (.slice A0 l0.length c0) l0) := ⟨by (with_reducible repeat (first | apply Kd.V_alloc | apply Kd.V_drewN | apply Kd.V_drew)); exact Kd.V_mono (Kd.V_far (p := ⟨gb345, 1, none⟩) (Kd.V_far (p := ⟨gb345, 0, none⟩) (Kd.V_mono HO_0.out (fun k_ hk => (⟨hk, hk.2⟩ : _ ∧ k_ ≠ gb345))) (fun _ hk => hk.2) (.int .i64 ((rd_T33 t334 x43_2).f0))) (fun _ hk => hk.2) (.int .i64 ((rd_T33 t334 x43_2).f1))) (fun _ hk => ⟨hk.1.1.1, ⟨hk.1.1.2.1, ⟨hk.1.1.2.2, hk.1.2⟩⟩⟩)⟩
                              have n1_ : Aside0 (Kd.R k33 33 ((w43.setCell ⟨gb345, 0, none⟩ (.int .i64 ((rd_T33 t334 x43_2).f0))).setCell ⟨gb345, 1, none⟩ (.int .i64 ((rd_T33 t334 x43_2).f1))) w.heap.size (fun k_ => (w.heap.size ≤ k_) ∧ k_ ≠ gb345) (.slice (some ad344) t334.length co33) t334) := ⟨by (with_reducible repeat (first | apply Kd.R_alloc | apply Kd.R_drewN | apply Kd.R_drew)); exact Kd.R_mono (Kd.R_far (p := ⟨gb345, 1, none⟩) (Kd.R_far (p := ⟨gb345, 0, none⟩) (Kd.R_mono HO_8.out (fun k_ hk => (⟨hk, hk.2⟩ : _ ∧ k_ ≠ gb345))) (fun _ hk => hk.2) (.int .i64 ((rd_T33 t334 x43_2).f0))) (fun _ hk => hk.2) (.int .i64 ((rd_T33 t334 x43_2).f1))) (fun _ hk => ⟨hk.1.1, hk.1.2⟩)⟩
                              have n2_ : Aside0 (Kd.R k33 33 ((w43.setCell ⟨gb345, 0, none⟩ (.int .i64 ((rd_T33 t334 x43_2).f0))).setCell ⟨gb345, 1, none⟩ (.int .i64 ((rd_T33 t334 x43_2).f1))) w.heap.size (fun k_ => (w.heap.size ≤ k_) ∧ k_ ≠ gb345) (.slice (some ad344) t334.length co33) t334) := ⟨by (with_reducible repeat (first | apply Kd.R_alloc | apply Kd.R_drewN | apply Kd.R_drew)); exact Kd.R_mono (Kd.R_far (p := ⟨gb345, 1, none⟩) (Kd.R_far (p := ⟨gb345, 0, none⟩) (Kd.R_mono HO_41.out (fun k_ hk => (⟨hk, hk.2⟩ : _ ∧ k_ ≠ gb345))) (fun _ hk => hk.2) (.int .i64 ((rd_T33 t334 x43_2).f0))) (fun _ hk => hk.2) (.int .i64 ((rd_T33 t334 x43_2).f1))) (fun _ hk => ⟨hk.1.1, hk.1.2⟩)⟩
                              have n3_ : Aside0 (((w43.setCell ⟨gb345, 0, none⟩ (.int .i64 ((rd_T33 t334 x43_2).f0))).setCell ⟨gb345, 1, none⟩ (.int .i64 ((rd_T33 t334 x43_2).f1))).heap[gb345]? = some (.cells #[.int .i64 ((rd_T33 t334 x43_2).f0), .int .i64 ((rd_T33 t334 x43_2).f1)] 33 (0, 0))) := ⟨by (with_reducible repeat (first | refine blk_drewN ?_ _ | refine blk_drew ?_ | refine blk_alloc ?_ _)); refine blk_put (cs := #[.int .i64 ((rd_T33 t334 x43_2).f0), .int .i64 0]) ?_ 1 _ rfl; (with_reducible repeat (first | refine blk_drewN ?_ _ | refine blk_drew ?_ | refine blk_alloc ?_ _)); refine blk_put (cs := #[.int .i64 0, .int .i64 0]) ?_ 0 _ rfl; (with_reducible repeat (first | refine blk_drewN ?_ _ | refine blk_drew ?_ | refine blk_alloc ?_ _)); exact BK345.out⟩
                              have n4_ : Aside0 (Below w.heap.size w ((w43.setCell ⟨gb345, 0, none⟩ (.int .i64 ((rd_T33 t334 x43_2).f0))).setCell ⟨gb345, 1, none⟩ (.int .i64 ((rd_T33 t334 x43_2).f1)))) := ⟨by repeat (first | (with_reducible first | exact HB.out | apply below_alloc | apply pw_below_drewN | apply below_drew1 | refine below_set ?_ GE345.out) | exact HB.out)⟩
                              (try clear HO_0)
                              (try clear HO_8)
                              (try clear HO_41)
                              (try clear BK345)
                              (try clear HB)
                              generalize ((w43.setCell ⟨gb345, 0, none⟩ (.int .i64 ((rd_T33 t334 x43_2).f0))).setCell ⟨gb345, 1, none⟩ (.int .i64 ((rd_T33 t334 x43_2).f1))) = w45 at n0_ n1_ n2_ n3_ n4_ ⊢
                              have HO_0 := n0_
                              have HO_8 := n1_
                              have HO_41 := n2_
                              have BK345 := n3_
                              have HB := n4_
                              clear n0_ n1_ n2_ n3_ n4_
                              have n0_ := Aside0.mk (Kd.V_drew HO_0.out)
                              have n1_ := Aside0.mk (Kd.R_drew HO_8.out)
                              have n2_ := Aside0.mk (Kd.R_drew HO_41.out)
                              have n3_ := Aside0.mk (blk_drew BK345.out)
                              have n4_ := Aside0.mk (below_drew1 HB.out)
                              clear HO_0
                              clear HO_8
                              clear HO_41
                              clear BK345
                              clear HB
                              have HO_0 := n0_
                              have HO_8 := n1_
                              have HO_41 := n2_
                              have BK345 := n3_
                              have HB := n4_
                              clear n0_ n1_ n2_ n3_ n4_
                              have p346 : 0 ≤ ((ji39) : Int) := of_decide_eq_true (by first | (with_reducible assumption) | assumption)
                              have q346 : (ji39) < (t334.length : Int) := of_decide_eq_true (by first | (with_reducible assumption) | assumption)
                              obtain ⟨ad346, e346, hx346_0, hx346_1⟩ := at_T33 (Kd.R_reads' HO_8.out).2.2 (ji39) p346 q346
                              obtain rfl : ad344 = ad346 := (by injection e346)
                              replace p346 := eq_true p346
                              replace q346 := eq_true q346
                              refine start_ (n := 20) (S := fun w' => w'.cell? ⟨gb345, 0, none⟩ = some (.int .i64 ((rd_T33 t334 x43_2).f0)) ∧ w'.cell? ⟨gb345, 1, none⟩ = some (.int .i64 ((rd_T33 t334 x43_2).f1)) ∧ w'.cell? (ad344.add (((ji39)).toNat * 2)) = some (.int .i64 ((rd_T33 t334 (ji39)).f0)) ∧ w'.cell? ⟨(ad344.add (((ji39)).toNat * 2)).block, (ad344.add (((ji39)).toNat * 2)).off + 1, none⟩ = some (.int .i64 ((rd_T33 t334 (ji39)).f1))) (ds := []) #[false, false, false, false, false, false, false, false, false, false, false, false, false, false, false, false, false, false, false, false] (by kernel_rfl) rfl rfl ⟨(blk_cell BK345.out 0).trans rfl, (blk_cell BK345.out 1).trans rfl, hx346_0, hx346_1⟩ (fun hHeld => ?_); refine with_tabW wageofficelaw04_SpanNormal.tab10 wageofficelaw04_SpanNormal.bits10 (fun HT_ HW_ => ?_)
                              generalize w45.drew = w46 at HO_0 HO_8 HO_41 BK345 HB hx346_0 hx346_1 hHeld ⊢
                              refine pure_ (i := 0) (N := some 48) (v := ?_) (a' := ?_) #[true, false, false, false, false, false, false, false, false, false, false, false, false, false, false, false, false, false, false, false] rfl rfl (any_of HT_.out (by kernel_rfl)) (fun _ _ _ h => h) (Or.inl ⟨by rfl, ?_⟩) ?_ ?_
                              rotate_left
                              · intro w'
                                go_simp
                                with_reducible rfl
                              rotate_left
                              · simp only [Act.put, List.setIfInBounds_toArray, List.set_cons_zero, List.set_cons_succ, i64_w, i32_w]
                                rfl
                              refine pure_ (i := 2) (N := some 50) (v := ?_) (a' := ?_) #[true, false, true, false, false, false, false, false, false, false, false, false, false, false, false, false, false, false, false, false] rfl rfl (any_of HT_.out (by kernel_rfl)) (fun _ _ _ h => h) (Or.inl ⟨by rfl, ?_⟩) ?_ ?_
                              rotate_left
                              · intro w'
                                go_simp
                                with_reducible rfl
                              rotate_left
                              · simp only [Act.put, List.setIfInBounds_toArray, List.set_cons_zero, List.set_cons_succ, i64_w, i32_w]
                                rfl
                              refine take_ (i := 1) (N := some 49) (v := ?_) (a' := ?_) #[true, true, true, false, false, false, false, false, false, false, false, false, false, false, false, false, false, false, false, false] rfl rfl (take_ofW HT_.out HW_.out (by kernel_rfl)) (fun _ _ _ h => h) (Or.inl ⟨by rfl, ?_⟩) hHeld ?_ ?_
                              rotate_left
                              · rintro w' ⟨s0, s1, s2, s3⟩
                                go_simp
                                with_reducible rfl
                              rotate_left
                              · simp only [Act.put, List.setIfInBounds_toArray, List.set_cons_zero, List.set_cons_succ, i64_w, i32_w]
                                rfl
                              refine take_ (i := 3) (N := some 51) (v := ?_) (a' := ?_) #[true, true, true, true, false, false, false, false, false, false, false, false, false, false, false, false, false, false, false, false] rfl rfl (take_ofW HT_.out HW_.out (by kernel_rfl)) (fun _ _ _ h => h) (Or.inl ⟨by rfl, ?_⟩) hHeld ?_ ?_
                              rotate_left
                              · rintro w' ⟨s0, s1, s2, s3⟩
                                go_simp
                                with_reducible rfl
                              rotate_left
                              · simp only [Act.put, List.setIfInBounds_toArray, List.set_cons_zero, List.set_cons_succ, i64_w, i32_w]
                                rfl
                              refine pure_ (i := 4) (N := some 52) (v := ?_) (a' := ?_) #[true, true, true, true, true, false, false, false, false, false, false, false, false, false, false, false, false, false, false, false] rfl rfl (any_of HT_.out (by kernel_rfl)) (fun _ _ _ h => h) (Or.inl ⟨by rfl, ?_⟩) ?_ ?_
                              rotate_left
                              · intro w'
                                go_simp
                                with_reducible rfl
                              rotate_left
                              · simp only [Act.put, List.setIfInBounds_toArray, List.set_cons_zero, List.set_cons_succ, i64_w, i32_w]
                                rfl
                              refine pure_ (i := 5) (N := some 53) (v := ?_) (a' := ?_) #[true, true, true, true, true, true, false, false, false, false, false, false, false, false, false, false, false, false, false, false] rfl rfl (any_of HT_.out (by kernel_rfl)) (fun _ _ _ h => h) (Or.inl ⟨by rfl, ?_⟩) ?_ ?_
                              rotate_left
                              · intro w'
                                go_simp
                                with_reducible rfl
                              rotate_left
                              · simp only [Act.put, List.setIfInBounds_toArray, List.set_cons_zero, List.set_cons_succ, i64_w, i32_w]
                                rfl
                              refine pure_ (i := 6) (N := some 54) (v := ?_) (a' := ?_) #[true, true, true, true, true, true, true, false, false, false, false, false, false, false, false, false, false, false, false, false] rfl rfl (any_of HT_.out (by kernel_rfl)) (fun _ _ _ h => h) (Or.inl ⟨by rfl, ?_⟩) ?_ ?_
                              rotate_left
                              · intro w'
                                go_simp
                                with_reducible rfl
                              rotate_left
                              · simp only [Act.put, List.setIfInBounds_toArray, List.set_cons_zero, List.set_cons_succ, i64_w, i32_w]
                                rfl
                              refine pure_ (i := 7) (N := some 55) (v := ?_) (a' := ?_) #[true, true, true, true, true, true, true, true, false, false, false, false, false, false, false, false, false, false, false, false] rfl rfl (any_of HT_.out (by kernel_rfl)) (fun _ _ _ h => h) (Or.inl ⟨by rfl, ?_⟩) ?_ ?_
                              rotate_left
                              · intro w'
                                go_simp
                                with_reducible rfl
                              rotate_left
                              · simp only [Act.put, List.setIfInBounds_toArray, List.set_cons_zero, List.set_cons_succ, i64_w, i32_w]
                                rfl
                              refine pure_ (i := 8) (N := some 56) (v := ?_) (a' := ?_) #[true, true, true, true, true, true, true, true, true, false, false, false, false, false, false, false, false, false, false, false] rfl rfl (any_of HT_.out (by kernel_rfl)) (fun _ _ _ h => h) (Or.inl ⟨by rfl, ?_⟩) ?_ ?_
                              rotate_left
                              · intro w'
                                go_simp
                                with_reducible rfl
                              rotate_left
                              · simp only [Act.put, List.setIfInBounds_toArray, List.set_cons_zero, List.set_cons_succ, i64_w, i32_w]
                                rfl
                              refine pure_ (i := 9) (N := some 57) (v := ?_) (a' := ?_) #[true, true, true, true, true, true, true, true, true, true, false, false, false, false, false, false, false, false, false, false] rfl rfl (any_of HT_.out (by kernel_rfl)) (fun _ _ _ h => h) (Or.inl ⟨by rfl, ?_⟩) ?_ ?_
                              rotate_left
                              · intro w'
                                go_simp
                                with_reducible rfl
                              rotate_left
                              · simp only [Act.put, List.setIfInBounds_toArray, List.set_cons_zero, List.set_cons_succ, i64_w, i32_w]
                                rfl
                              refine pure_ (i := 10) (N := some 58) (v := ?_) (a' := ?_) #[true, true, true, true, true, true, true, true, true, true, true, false, false, false, false, false, false, false, false, false] rfl rfl (any_of HT_.out (by kernel_rfl)) (fun _ _ _ h => h) (Or.inl ⟨by rfl, ?_⟩) ?_ ?_
                              rotate_left
                              · intro w'
                                go_simp
                                with_reducible rfl
                              rotate_left
                              · simp only [Act.put, List.setIfInBounds_toArray, List.set_cons_zero, List.set_cons_succ, i64_w, i32_w]
                                rfl
                              refine pure_ (i := 11) (N := some 59) (v := ?_) (a' := ?_) #[true, true, true, true, true, true, true, true, true, true, true, true, false, false, false, false, false, false, false, false] rfl rfl (any_of HT_.out (by kernel_rfl)) (fun _ _ _ h => h) (Or.inl ⟨by rfl, ?_⟩) ?_ ?_
                              rotate_left
                              · intro w'
                                go_simp
                                with_reducible rfl
                              rotate_left
                              · simp only [Act.put, List.setIfInBounds_toArray, List.set_cons_zero, List.set_cons_succ, i64_w, i32_w]
                                rfl
                              refine pure_ (i := 12) (N := some 60) (v := ?_) (a' := ?_) #[true, true, true, true, true, true, true, true, true, true, true, true, true, false, false, false, false, false, false, false] rfl rfl (any_of HT_.out (by kernel_rfl)) (fun _ _ _ h => h) (Or.inl ⟨by rfl, ?_⟩) ?_ ?_
                              rotate_left
                              · intro w'
                                go_simp
                                with_reducible rfl
                              rotate_left
                              · simp only [Act.put, List.setIfInBounds_toArray, List.set_cons_zero, List.set_cons_succ, i64_w, i32_w]
                                rfl
                              refine pure_ (i := 13) (N := some 61) (v := ?_) (a' := ?_) #[true, true, true, true, true, true, true, true, true, true, true, true, true, true, false, false, false, false, false, false] rfl rfl (any_of HT_.out (by kernel_rfl)) (fun _ _ _ h => h) (Or.inl ⟨by rfl, ?_⟩) ?_ ?_
                              rotate_left
                              · intro w'
                                go_simp
                                with_reducible rfl
                              rotate_left
                              · simp only [Act.put, List.setIfInBounds_toArray, List.set_cons_zero, List.set_cons_succ, i64_w, i32_w]
                                rfl
                              refine pure_ (i := 15) (N := some 63) (v := ?_) (a' := ?_) #[true, true, true, true, true, true, true, true, true, true, true, true, true, true, false, true, false, false, false, false] rfl rfl (any_of HT_.out (by kernel_rfl)) (fun _ _ _ h => h) (Or.inl ⟨by rfl, ?_⟩) ?_ ?_
                              rotate_left
                              · intro w'
                                go_simp
                                with_reducible rfl
                              rotate_left
                              · simp only [Act.put, List.setIfInBounds_toArray, List.set_cons_zero, List.set_cons_succ, i64_w, i32_w]
                                rfl
                              refine take_ (i := 14) (N := some 62) (v := ?_) (a' := ?_) #[true, true, true, true, true, true, true, true, true, true, true, true, true, true, true, true, false, false, false, false] rfl rfl (take_ofW HT_.out HW_.out (by kernel_rfl)) (fun _ _ _ h => h) (Or.inl ⟨by rfl, ?_⟩) hHeld ?_ ?_
                              rotate_left
                              · rintro w' ⟨s0, s1, s2, s3⟩
                                go_simp
                                with_reducible rfl
                              rotate_left
                              · simp only [Act.put, List.setIfInBounds_toArray, List.set_cons_zero, List.set_cons_succ, i64_w, i32_w]
                                rfl
                              refine take_ (i := 16) (N := some 64) (v := ?_) (a' := ?_) #[true, true, true, true, true, true, true, true, true, true, true, true, true, true, true, true, true, false, false, false] rfl rfl (take_ofW HT_.out HW_.out (by kernel_rfl)) (fun _ _ _ h => h) (Or.inl ⟨by rfl, ?_⟩) hHeld ?_ ?_
                              rotate_left
                              · rintro w' ⟨s0, s1, s2, s3⟩
                                go_simp
                                with_reducible rfl
                              rotate_left
                              · simp only [Act.put, List.setIfInBounds_toArray, List.set_cons_zero, List.set_cons_succ, i64_w, i32_w]
                                rfl
                              refine pure_ (i := 17) (N := some 65) (v := ?_) (a' := ?_) #[true, true, true, true, true, true, true, true, true, true, true, true, true, true, true, true, true, true, false, false] rfl rfl (any_of HT_.out (by kernel_rfl)) (fun _ _ _ h => h) (Or.inl ⟨by rfl, ?_⟩) ?_ ?_
                              rotate_left
                              · intro w'
                                go_simp
                                with_reducible rfl
                              rotate_left
                              · simp only [Act.put, List.setIfInBounds_toArray, List.set_cons_zero, List.set_cons_succ, i64_w, i32_w]
                                rfl
                              refine pure_ (i := 18) (N := some 66) (v := ?_) (a' := ?_) #[true, true, true, true, true, true, true, true, true, true, true, true, true, true, true, true, true, true, true, false] rfl rfl (any_of HT_.out (by kernel_rfl)) (fun _ _ _ h => h) (Or.inl ⟨by rfl, ?_⟩) ?_ ?_
                              rotate_left
                              · intro w'
                                go_simp
                                with_reducible rfl
                              rotate_left
                              · simp only [Act.put, List.setIfInBounds_toArray, List.set_cons_zero, List.set_cons_succ, i64_w, i32_w]
                                rfl
                              refine pure_ (i := 19) (N := some 67) (v := ?_) (a' := ?_) #[true, true, true, true, true, true, true, true, true, true, true, true, true, true, true, true, true, true, true, true] rfl rfl (any_of HT_.out (by kernel_rfl)) (fun _ _ _ h => h) (Or.inl ⟨by rfl, ?_⟩) ?_ ?_
                              rotate_left
                              · intro w'
                                go_simp
                                with_reducible rfl
                              rotate_left
                              · simp only [Act.put, List.setIfInBounds_toArray, List.set_cons_zero, List.set_cons_succ, i64_w, i32_w]
                                rfl
                              refine done_ (done_of HT_.out (by kernel_rfl)) ?_
                              try go_wp2
                              go_roundg k2
                              case measure => have := HJ7.out; have := HK2.out; omega
                              case rel => exact ⟨(wrap64 (x43_2 + 1)), (by first | rfl | (simp; done) | (simp [*]; done)), H', ⟨by have := HJ7.out; have := HK2.out; omega⟩, ⟨by (with_reducible repeat (first | apply Kd.V_alloc | apply Kd.V_drewN | apply Kd.V_drew)); exact Kd.V_mono HO_0.out (fun _ hk => ⟨hk.1, ⟨hk.2.1, hk.2.2.1⟩⟩)⟩, ⟨by (with_reducible repeat (first | apply Kd.R_alloc | apply Kd.R_drewN | apply Kd.R_drew)); exact Kd.R_mono HO_8.out (fun _ hk => hk.1)⟩, ⟨by (with_reducible repeat (first | apply Kd.R_alloc | apply Kd.R_drewN | apply Kd.R_drew)); exact Kd.R_mono HO_41.out (fun _ hk => hk.1)⟩, ⟨by repeat (first | (with_reducible first | exact HB.out | apply below_alloc | apply pw_below_drewN | apply below_drew1 | refine below_set ?_ GE345.out) | exact HB.out)⟩⟩
                          · rw [if_neg c41] at H
                            exact absurd H (by simp)
                        · rw [if_neg c40] at H
                          exact absurd H (by simp)
                      · rw [if_neg c38] at H
                        have c38b0 : decide (0 < x43_2) = false := decide_eq_false c38
                        clear c38
                        have H' := Aside0.mk H
                        clear H
                        have p344 : 0 ≤ (x43_2 : Int) := of_decide_eq_true (by first | (with_reducible assumption) | assumption)
                        have q344 : x43_2 < (t334.length : Int) := of_decide_eq_true (by first | (with_reducible assumption) | assumption)
                        obtain ⟨ad344, e344, hx344_0, hx344_1⟩ := at_T33 (Kd.R_reads' HO_41.out).2.2 x43_2 p344 q344
                        cases e344
                        replace p344 := eq_true p344
                        replace q344 := eq_true q344
                        try go_wp2_with (first | ((with_reducible refine gate_dst (N := 10) rfl ?_); refine box_event ?hg (N := 10) ?hd (cs := #[.int .i64 0, .int .i64 0]) (t := 33) ?hr ?_; (case hd => rfl); (case hg => rfl); (case hr => first | (go_simp; done) | (go_simp; rfl)); intro gb345 hg w47 hbox hb; have n0_ := Aside0.mk (Kd.V_below (Kd.V_elderB (by (with_reducible repeat (first | apply Kd.V_alloc | apply Kd.V_drewN | apply Kd.V_drew)); exact HO_0.out) gb345 (Nat.le_of_eq hg.symm)) hb); have n1_ := Aside0.mk (Kd.R_below (Kd.R_elderB (by (with_reducible repeat (first | apply Kd.R_alloc | apply Kd.R_drewN | apply Kd.R_drew)); exact HO_8.out) gb345 (Nat.le_of_eq hg.symm)) hb); have n2_ := Aside0.mk (Kd.R_below (Kd.R_elderB (by (with_reducible repeat (first | apply Kd.R_alloc | apply Kd.R_drewN | apply Kd.R_drew)); exact HO_41.out) gb345 (Nat.le_of_eq hg.symm)) hb); have n3_ := Aside0.mk (below_step (by repeat (first | (with_reducible first | exact HB.out | apply below_alloc | apply pw_below_drewN | apply below_drew1) | exact HB.out)) hb); have n4_ := Aside0.mk (hbox); have n5_ := Aside0.mk ((by rw [hg]; exact (below_size (by repeat (first | (with_reducible first | exact HB.out | apply below_alloc | apply pw_below_drewN | apply below_drew1) | exact HB.out))) : w.heap.size ≤ gb345)); have n6_ := Aside0.mk ((by rw [hg]; exact (below_size (by repeat (first | (with_reducible first | exact HB.out | apply below_alloc | apply pw_below_drewN | apply below_drew1) | exact HB.out))) : w.heap.size ≤ gb345)); clear HO_0; clear HO_8; clear HO_41; clear HB; have HO_0 := n0_; have HO_8 := n1_; have HO_41 := n2_; have HB := n3_; have BK345 := n4_; have GW345 := n5_; have GE345 := n6_; clear n0_ n1_ n2_ n3_ n4_ n5_ n6_; clear hb hbox hg; have hcz48_0 : w47.cell? ⟨gb345, 0, none⟩ = some (.int .i64 0) := (blk_cell BK345.out 0).trans rfl; have hcz48_1 : w47.cell? ⟨gb345, 1, none⟩ = some (.int .i64 0) := (blk_cell BK345.out 1).trans rfl; have hfz48_0 := blk_frozen BK345.out 0; have hfz48_1 := blk_frozen BK345.out 1))
                        have n0_ : Aside0 (Kd.V k33 33 ((w47.setCell ⟨gb345, 0, none⟩ (.int .i64 ((rd_T33 t334 x43_2).f0))).setCell ⟨gb345, 1, none⟩ (.int .i64 ((rd_T33 t334 x43_2).f1))) w.heap.size (fun k_ => (P0_ k_ ∨ w.heap.size ≤ k_) ∧ some k_ ≠ (.slice (some ad344) t334.length co33 : Value).ownBlock ∧ some k_ ≠ (.slice (some ad344) t334.length co33 : Value).ownBlock ∧ k_ ≠ gb345) (.slice A0 l0.length c0) l0) := ⟨by (with_reducible repeat (first | apply Kd.V_alloc | apply Kd.V_drewN | apply Kd.V_drew)); exact Kd.V_mono (Kd.V_far (p := ⟨gb345, 1, none⟩) (Kd.V_far (p := ⟨gb345, 0, none⟩) (Kd.V_mono HO_0.out (fun k_ hk => (⟨hk, hk.2⟩ : _ ∧ k_ ≠ gb345))) (fun _ hk => hk.2) (.int .i64 ((rd_T33 t334 x43_2).f0))) (fun _ hk => hk.2) (.int .i64 ((rd_T33 t334 x43_2).f1))) (fun _ hk => ⟨hk.1.1.1, ⟨hk.1.1.2.1, ⟨hk.1.1.2.2, hk.1.2⟩⟩⟩)⟩
                        have n1_ : Aside0 (Kd.R k33 33 ((w47.setCell ⟨gb345, 0, none⟩ (.int .i64 ((rd_T33 t334 x43_2).f0))).setCell ⟨gb345, 1, none⟩ (.int .i64 ((rd_T33 t334 x43_2).f1))) w.heap.size (fun k_ => (w.heap.size ≤ k_) ∧ k_ ≠ gb345) (.slice (some ad344) t334.length co33) t334) := ⟨by (with_reducible repeat (first | apply Kd.R_alloc | apply Kd.R_drewN | apply Kd.R_drew)); exact Kd.R_mono (Kd.R_far (p := ⟨gb345, 1, none⟩) (Kd.R_far (p := ⟨gb345, 0, none⟩) (Kd.R_mono HO_8.out (fun k_ hk => (⟨hk, hk.2⟩ : _ ∧ k_ ≠ gb345))) (fun _ hk => hk.2) (.int .i64 ((rd_T33 t334 x43_2).f0))) (fun _ hk => hk.2) (.int .i64 ((rd_T33 t334 x43_2).f1))) (fun _ hk => ⟨hk.1.1, hk.1.2⟩)⟩
                        have n2_ : Aside0 (Kd.R k33 33 ((w47.setCell ⟨gb345, 0, none⟩ (.int .i64 ((rd_T33 t334 x43_2).f0))).setCell ⟨gb345, 1, none⟩ (.int .i64 ((rd_T33 t334 x43_2).f1))) w.heap.size (fun k_ => (w.heap.size ≤ k_) ∧ k_ ≠ gb345) (.slice (some ad344) t334.length co33) t334) := ⟨by (with_reducible repeat (first | apply Kd.R_alloc | apply Kd.R_drewN | apply Kd.R_drew)); exact Kd.R_mono (Kd.R_far (p := ⟨gb345, 1, none⟩) (Kd.R_far (p := ⟨gb345, 0, none⟩) (Kd.R_mono HO_41.out (fun k_ hk => (⟨hk, hk.2⟩ : _ ∧ k_ ≠ gb345))) (fun _ hk => hk.2) (.int .i64 ((rd_T33 t334 x43_2).f0))) (fun _ hk => hk.2) (.int .i64 ((rd_T33 t334 x43_2).f1))) (fun _ hk => ⟨hk.1.1, hk.1.2⟩)⟩
                        have n3_ : Aside0 (((w47.setCell ⟨gb345, 0, none⟩ (.int .i64 ((rd_T33 t334 x43_2).f0))).setCell ⟨gb345, 1, none⟩ (.int .i64 ((rd_T33 t334 x43_2).f1))).heap[gb345]? = some (.cells #[.int .i64 ((rd_T33 t334 x43_2).f0), .int .i64 ((rd_T33 t334 x43_2).f1)] 33 (0, 0))) := ⟨by (with_reducible repeat (first | refine blk_drewN ?_ _ | refine blk_drew ?_ | refine blk_alloc ?_ _)); refine blk_put (cs := #[.int .i64 ((rd_T33 t334 x43_2).f0), .int .i64 0]) ?_ 1 _ rfl; (with_reducible repeat (first | refine blk_drewN ?_ _ | refine blk_drew ?_ | refine blk_alloc ?_ _)); refine blk_put (cs := #[.int .i64 0, .int .i64 0]) ?_ 0 _ rfl; (with_reducible repeat (first | refine blk_drewN ?_ _ | refine blk_drew ?_ | refine blk_alloc ?_ _)); exact BK345.out⟩
                        have n4_ : Aside0 (Below w.heap.size w ((w47.setCell ⟨gb345, 0, none⟩ (.int .i64 ((rd_T33 t334 x43_2).f0))).setCell ⟨gb345, 1, none⟩ (.int .i64 ((rd_T33 t334 x43_2).f1)))) := ⟨by repeat (first | (with_reducible first | exact HB.out | apply below_alloc | apply pw_below_drewN | apply below_drew1 | refine below_set ?_ GE345.out) | exact HB.out)⟩
                        (try clear HO_0)
                        (try clear HO_8)
                        (try clear HO_41)
                        (try clear BK345)
                        (try clear HB)
                        generalize ((w47.setCell ⟨gb345, 0, none⟩ (.int .i64 ((rd_T33 t334 x43_2).f0))).setCell ⟨gb345, 1, none⟩ (.int .i64 ((rd_T33 t334 x43_2).f1))) = w49 at n0_ n1_ n2_ n3_ n4_ ⊢
                        have HO_0 := n0_
                        have HO_8 := n1_
                        have HO_41 := n2_
                        have BK345 := n3_
                        have HB := n4_
                        clear n0_ n1_ n2_ n3_ n4_
                        have n0_ := Aside0.mk (Kd.V_drew HO_0.out)
                        have n1_ := Aside0.mk (Kd.R_drew HO_8.out)
                        have n2_ := Aside0.mk (Kd.R_drew HO_41.out)
                        have n3_ := Aside0.mk (blk_drew BK345.out)
                        have n4_ := Aside0.mk (below_drew1 HB.out)
                        clear HO_0
                        clear HO_8
                        clear HO_41
                        clear BK345
                        clear HB
                        have HO_0 := n0_
                        have HO_8 := n1_
                        have HO_41 := n2_
                        have BK345 := n3_
                        have HB := n4_
                        clear n0_ n1_ n2_ n3_ n4_
                        refine start_ (n := 20) (S := fun w' => w'.cell? ⟨gb345, 0, none⟩ = some (.int .i64 ((rd_T33 t334 x43_2).f0)) ∧ w'.cell? ⟨gb345, 1, none⟩ = some (.int .i64 ((rd_T33 t334 x43_2).f1))) (ds := []) #[false, false, false, false, false, false, false, false, false, false, false, false, false, false, false, false, false, false, false, false] (by kernel_rfl) rfl rfl ⟨(blk_cell BK345.out 0).trans rfl, (blk_cell BK345.out 1).trans rfl⟩ (fun hHeld => ?_); refine with_tabW wageofficelaw04_SpanNormal.tab10 wageofficelaw04_SpanNormal.bits10 (fun HT_ HW_ => ?_)
                        generalize w49.drew = w50 at HO_0 HO_8 HO_41 BK345 HB hHeld ⊢
                        refine pure_ (i := 0) (N := some 48) (v := ?_) (a' := ?_) #[true, false, false, false, false, false, false, false, false, false, false, false, false, false, false, false, false, false, false, false] rfl rfl (any_of HT_.out (by kernel_rfl)) (fun _ _ _ h => h) (Or.inl ⟨by rfl, ?_⟩) ?_ ?_
                        rotate_left
                        · intro w'
                          go_simp
                          with_reducible rfl
                        rotate_left
                        · simp only [Act.put, List.setIfInBounds_toArray, List.set_cons_zero, List.set_cons_succ, i64_w, i32_w]
                          rfl
                        refine pure_ (i := 2) (N := some 50) (v := ?_) (a' := ?_) #[true, false, true, false, false, false, false, false, false, false, false, false, false, false, false, false, false, false, false, false] rfl rfl (any_of HT_.out (by kernel_rfl)) (fun _ _ _ h => h) (Or.inl ⟨by rfl, ?_⟩) ?_ ?_
                        rotate_left
                        · intro w'
                          go_simp
                          with_reducible rfl
                        rotate_left
                        · simp only [Act.put, List.setIfInBounds_toArray, List.set_cons_zero, List.set_cons_succ, i64_w, i32_w]
                          rfl
                        refine take_ (i := 1) (N := some 49) (v := ?_) (a' := ?_) #[true, true, true, false, false, false, false, false, false, false, false, false, false, false, false, false, false, false, false, false] rfl rfl (take_ofW HT_.out HW_.out (by kernel_rfl)) (fun _ _ _ h => h) (Or.inl ⟨by rfl, ?_⟩) hHeld ?_ ?_
                        rotate_left
                        · rintro w' ⟨s0, s1⟩
                          go_simp
                          with_reducible rfl
                        rotate_left
                        · simp only [Act.put, List.setIfInBounds_toArray, List.set_cons_zero, List.set_cons_succ, i64_w, i32_w]
                          rfl
                        refine take_ (i := 3) (N := some 51) (v := ?_) (a' := ?_) #[true, true, true, true, false, false, false, false, false, false, false, false, false, false, false, false, false, false, false, false] rfl rfl (take_ofW HT_.out HW_.out (by kernel_rfl)) (fun _ _ _ h => h) (Or.inl ⟨by rfl, ?_⟩) hHeld ?_ ?_
                        rotate_left
                        · rintro w' ⟨s0, s1⟩
                          go_simp
                          with_reducible rfl
                        rotate_left
                        · simp only [Act.put, List.setIfInBounds_toArray, List.set_cons_zero, List.set_cons_succ, i64_w, i32_w]
                          rfl
                        refine pure_ (i := 4) (N := some 52) (v := ?_) (a' := ?_) #[true, true, true, true, true, false, false, false, false, false, false, false, false, false, false, false, false, false, false, false] rfl rfl (any_of HT_.out (by kernel_rfl)) (fun _ _ _ h => h) (Or.inl ⟨by rfl, ?_⟩) ?_ ?_
                        rotate_left
                        · intro w'
                          go_simp
                          with_reducible rfl
                        rotate_left
                        · simp only [Act.put, List.setIfInBounds_toArray, List.set_cons_zero, List.set_cons_succ, i64_w, i32_w]
                          rfl
                        refine pure_ (i := 5) (N := some 53) (v := ?_) (a' := ?_) #[true, true, true, true, true, true, false, false, false, false, false, false, false, false, false, false, false, false, false, false] rfl rfl (any_of HT_.out (by kernel_rfl)) (fun _ _ _ h => h) (Or.inl ⟨by rfl, ?_⟩) ?_ ?_
                        rotate_left
                        · intro w'
                          go_simp
                          with_reducible rfl
                        rotate_left
                        · simp only [Act.put, List.setIfInBounds_toArray, List.set_cons_zero, List.set_cons_succ, i64_w, i32_w]
                          rfl
                        refine pure_ (i := 6) (N := some 54) (v := ?_) (a' := ?_) #[true, true, true, true, true, true, true, false, false, false, false, false, false, false, false, false, false, false, false, false] rfl rfl (any_of HT_.out (by kernel_rfl)) (fun _ _ _ h => h) (Or.inl ⟨by rfl, ?_⟩) ?_ ?_
                        rotate_left
                        · intro w'
                          go_simp
                          with_reducible rfl
                        rotate_left
                        · simp only [Act.put, List.setIfInBounds_toArray, List.set_cons_zero, List.set_cons_succ, i64_w, i32_w]
                          rfl
                        refine pure_ (i := 7) (N := some 55) (v := ?_) (a' := ?_) #[true, true, true, true, true, true, true, true, false, false, false, false, false, false, false, false, false, false, false, false] rfl rfl (any_of HT_.out (by kernel_rfl)) (fun _ _ _ h => h) (Or.inl ⟨by rfl, ?_⟩) ?_ ?_
                        rotate_left
                        · intro w'
                          go_simp
                          with_reducible rfl
                        rotate_left
                        · simp only [Act.put, List.setIfInBounds_toArray, List.set_cons_zero, List.set_cons_succ, i64_w, i32_w]
                          rfl
                        refine pure_ (i := 8) (N := some 56) (v := ?_) (a' := ?_) #[true, true, true, true, true, true, true, true, true, false, false, false, false, false, false, false, false, false, false, false] rfl rfl (any_of HT_.out (by kernel_rfl)) (fun _ _ _ h => h) (Or.inl ⟨by rfl, ?_⟩) ?_ ?_
                        rotate_left
                        · intro w'
                          go_simp
                          with_reducible rfl
                        rotate_left
                        · simp only [Act.put, List.setIfInBounds_toArray, List.set_cons_zero, List.set_cons_succ, i64_w, i32_w]
                          rfl
                        refine pure_ (i := 9) (N := some 57) (v := undef) (a' := ?_) #[true, true, true, true, true, true, true, true, true, true, false, false, false, false, false, false, false, false, false, false] rfl rfl (any_of HT_.out (by kernel_rfl)) (fun _ _ _ h => h) (Or.inr ⟨by rfl, rfl⟩) ?_ ?_
                        rotate_left
                        · simp only [Act.put, List.setIfInBounds_toArray, List.set_cons_zero, List.set_cons_succ, i64_w, i32_w]
                          rfl
                        refine pure_ (i := 10) (N := some 58) (v := undef) (a' := ?_) #[true, true, true, true, true, true, true, true, true, true, true, false, false, false, false, false, false, false, false, false] rfl rfl (any_of HT_.out (by kernel_rfl)) (fun _ _ _ h => h) (Or.inr ⟨by rfl, rfl⟩) ?_ ?_
                        rotate_left
                        · simp only [Act.put, List.setIfInBounds_toArray, List.set_cons_zero, List.set_cons_succ, i64_w, i32_w]
                          rfl
                        refine pure_ (i := 11) (N := some 59) (v := undef) (a' := ?_) #[true, true, true, true, true, true, true, true, true, true, true, true, false, false, false, false, false, false, false, false] rfl rfl (any_of HT_.out (by kernel_rfl)) (fun _ _ _ h => h) (Or.inr ⟨by rfl, rfl⟩) ?_ ?_
                        rotate_left
                        · simp only [Act.put, List.setIfInBounds_toArray, List.set_cons_zero, List.set_cons_succ, i64_w, i32_w]
                          rfl
                        refine pure_ (i := 12) (N := some 60) (v := undef) (a' := ?_) #[true, true, true, true, true, true, true, true, true, true, true, true, true, false, false, false, false, false, false, false] rfl rfl (any_of HT_.out (by kernel_rfl)) (fun _ _ _ h => h) (Or.inr ⟨by rfl, rfl⟩) ?_ ?_
                        rotate_left
                        · simp only [Act.put, List.setIfInBounds_toArray, List.set_cons_zero, List.set_cons_succ, i64_w, i32_w]
                          rfl
                        refine pure_ (i := 13) (N := some 61) (v := undef) (a' := ?_) #[true, true, true, true, true, true, true, true, true, true, true, true, true, true, false, false, false, false, false, false] rfl rfl (any_of HT_.out (by kernel_rfl)) (fun _ _ _ h => h) (Or.inr ⟨by rfl, rfl⟩) ?_ ?_
                        rotate_left
                        · simp only [Act.put, List.setIfInBounds_toArray, List.set_cons_zero, List.set_cons_succ, i64_w, i32_w]
                          rfl
                        refine pure_ (i := 14) (N := some 62) (v := undef) (a' := ?_) #[true, true, true, true, true, true, true, true, true, true, true, true, true, true, true, false, false, false, false, false] rfl rfl (any_of HT_.out (by kernel_rfl)) (fun _ _ _ h => h) (Or.inr ⟨by rfl, rfl⟩) ?_ ?_
                        rotate_left
                        · simp only [Act.put, List.setIfInBounds_toArray, List.set_cons_zero, List.set_cons_succ, i64_w, i32_w]
                          rfl
                        refine pure_ (i := 15) (N := some 63) (v := undef) (a' := ?_) #[true, true, true, true, true, true, true, true, true, true, true, true, true, true, true, true, false, false, false, false] rfl rfl (any_of HT_.out (by kernel_rfl)) (fun _ _ _ h => h) (Or.inr ⟨by rfl, rfl⟩) ?_ ?_
                        rotate_left
                        · simp only [Act.put, List.setIfInBounds_toArray, List.set_cons_zero, List.set_cons_succ, i64_w, i32_w]
                          rfl
                        refine pure_ (i := 16) (N := some 64) (v := undef) (a' := ?_) #[true, true, true, true, true, true, true, true, true, true, true, true, true, true, true, true, true, false, false, false] rfl rfl (any_of HT_.out (by kernel_rfl)) (fun _ _ _ h => h) (Or.inr ⟨by rfl, rfl⟩) ?_ ?_
                        rotate_left
                        · simp only [Act.put, List.setIfInBounds_toArray, List.set_cons_zero, List.set_cons_succ, i64_w, i32_w]
                          rfl
                        refine pure_ (i := 17) (N := some 65) (v := undef) (a' := ?_) #[true, true, true, true, true, true, true, true, true, true, true, true, true, true, true, true, true, true, false, false] rfl rfl (any_of HT_.out (by kernel_rfl)) (fun _ _ _ h => h) (Or.inr ⟨by rfl, rfl⟩) ?_ ?_
                        rotate_left
                        · simp only [Act.put, List.setIfInBounds_toArray, List.set_cons_zero, List.set_cons_succ, i64_w, i32_w]
                          rfl
                        refine pure_ (i := 18) (N := some 66) (v := ?_) (a' := ?_) #[true, true, true, true, true, true, true, true, true, true, true, true, true, true, true, true, true, true, true, false] rfl rfl (any_of HT_.out (by kernel_rfl)) (fun _ _ _ h => h) (Or.inl ⟨by rfl, ?_⟩) ?_ ?_
                        rotate_left
                        · intro w'
                          go_simp
                          with_reducible rfl
                        rotate_left
                        · simp only [Act.put, List.setIfInBounds_toArray, List.set_cons_zero, List.set_cons_succ, i64_w, i32_w]
                          rfl
                        refine pure_ (i := 19) (N := some 67) (v := ?_) (a' := ?_) #[true, true, true, true, true, true, true, true, true, true, true, true, true, true, true, true, true, true, true, true] rfl rfl (any_of HT_.out (by kernel_rfl)) (fun _ _ _ h => h) (Or.inl ⟨by rfl, ?_⟩) ?_ ?_
                        rotate_left
                        · intro w'
                          go_simp
                          with_reducible rfl
                        rotate_left
                        · simp only [Act.put, List.setIfInBounds_toArray, List.set_cons_zero, List.set_cons_succ, i64_w, i32_w]
                          rfl
                        refine done_ (done_of HT_.out (by kernel_rfl)) ?_
                        try go_wp2
                        go_roundg k2
                        case measure => have := HJ7.out; have := HK2.out; omega
                        case rel => exact ⟨(wrap64 (x43_2 + 1)), (by first | rfl | (simp; done) | (simp [*]; done)), H', ⟨by have := HJ7.out; have := HK2.out; omega⟩, ⟨by (with_reducible repeat (first | apply Kd.V_alloc | apply Kd.V_drewN | apply Kd.V_drew)); exact Kd.V_mono HO_0.out (fun _ hk => ⟨hk.1, ⟨hk.2.1, hk.2.2.1⟩⟩)⟩, ⟨by (with_reducible repeat (first | apply Kd.R_alloc | apply Kd.R_drewN | apply Kd.R_drew)); exact Kd.R_mono HO_8.out (fun _ hk => hk.1)⟩, ⟨by (with_reducible repeat (first | apply Kd.R_alloc | apply Kd.R_drewN | apply Kd.R_drew)); exact Kd.R_mono HO_41.out (fun _ hk => hk.1)⟩, ⟨by repeat (first | (with_reducible first | exact HB.out | apply below_alloc | apply pw_below_drewN | apply below_drew1 | refine below_set ?_ GE345.out) | exact HB.out)⟩⟩
                  · rw [if_neg c36] at H
                    exact absurd H (by simp)
                · rw [if_neg c35] at H
                  exact absurd H (by simp)
              · rw [if_neg c34] at H
                have c34b0 : decide (x43_2 < (t334.length : Int)) = false := decide_eq_false c34
                clear c34
                obtain ⟨y347, hy347⟩ : ∃ y_ : List (S33), y_ = (([] : List (S33))) := ⟨_, rfl⟩
                replace H : (if y347.length + l0.length < 8796093022208 then ((some (y347 ++ l0 : List (S33))).bind fun y350 => (if y350.length + t334.length < 8796093022208 then ((some (y350 ++ t334 : List (S33))).bind fun y353 => (wageofficelaw04_SpanNormal.l1 k2 l0 a1 a2 t329 t334 y353 (y353.length : Int) 0)) else (none))) else (none)) = some r := by first | (rw [hy347]; with_reducible exact H) | (have H2_ := (Option.bind_some _ _).symm.trans H; rw [hy347]; with_reducible exact H2_) | (have H2_ := (Option.bind_some _ _).symm.trans H; with_reducible exact H2_) | with_reducible exact H | (rw [hy347]; exact H) | exact H
                have Ny347 := Aside0.mk hy347
                clear hy347
                by_cases c51 : y347.length + l0.length < 8796093022208
                · rw [if_pos c51] at H
                  have LMc51 := Aside0.mk c51
                  clear c51
                  obtain ⟨y350, hy350⟩ : ∃ y_ : List (S33), y_ = (y347 ++ l0) := ⟨_, rfl⟩
                  replace H : (if y350.length + t334.length < 8796093022208 then ((some (y350 ++ t334 : List (S33))).bind fun y353 => (wageofficelaw04_SpanNormal.l1 k2 l0 a1 a2 t329 t334 y353 (y353.length : Int) 0)) else (none)) = some r := by first | (rw [hy350]; with_reducible exact H) | (have H2_ := (Option.bind_some _ _).symm.trans H; rw [hy350]; with_reducible exact H2_) | (have H2_ := (Option.bind_some _ _).symm.trans H; with_reducible exact H2_) | with_reducible exact H | (rw [hy350]; exact H) | exact H
                  have Ny350 := Aside0.mk hy350
                  clear hy350
                  by_cases c52 : y350.length + t334.length < 8796093022208
                  · rw [if_pos c52] at H
                    have LMc52 := Aside0.mk c52
                    clear c52
                    obtain ⟨y353, hy353⟩ : ∃ y_ : List (S33), y_ = (y350 ++ t334) := ⟨_, rfl⟩
                    replace H : (wageofficelaw04_SpanNormal.l1 k2 l0 a1 a2 t329 t334 y353 (y353.length : Int) 0) = some r := by first | (rw [hy353]; with_reducible exact H) | (have H2_ := (Option.bind_some _ _).symm.trans H; rw [hy353]; with_reducible exact H2_) | (have H2_ := (Option.bind_some _ _).symm.trans H; with_reducible exact H2_) | with_reducible exact H | (rw [hy353]; exact H) | exact H
                    have Ny353 := Aside0.mk hy353
                    clear hy353
                    have H' := Aside0.mk H
                    clear H
                    go_wp2_with (first | ((with_reducible refine gate_dst (N := 69) rfl ?_); refine Kd.R_lit k33 _ 33 ?hg (N := 69) ?hd (xs := ([] : List (S33))) (inner := []) (ok := fun _ => True) (okp := fun _ => True) ?hr ?hp (fun _ hk => hk) trivial (Below.refl _ _) (Nat.le_refl _) (by simp) ?_; (case hd => rfl); (case hg => rfl); (case hr => first | (go_simp; done) | (go_simp; rfl)); (case hp => exact (Reps.none _ _)); intro v348 w53 ho54 hb hg_ hnew_; clear hg_ hnew_; (first | rw [← Ny347.out] at ho54 | (simp only [Int.reduceToNat] at ho54; rw [← Ny347.out] at ho54)); have n0_ := Aside0.mk (Kd.V_elder' (by (with_reducible repeat (first | apply Kd.V_alloc | apply Kd.V_drewN | apply Kd.V_drew)); exact HO_0.out) (Kd.R_base ho54) hb); have n1_ := Aside0.mk (Kd.R_elder' (by (with_reducible repeat (first | apply Kd.R_alloc | apply Kd.R_drewN | apply Kd.R_drew)); exact HO_8.out) (Kd.R_base ho54) hb); have n2_ := Aside0.mk (Kd.R_elder' (by (with_reducible repeat (first | apply Kd.R_alloc | apply Kd.R_drewN | apply Kd.R_drew)); exact HO_41.out) (Kd.R_base ho54) hb); have n3_ := Aside0.mk (Kd.R_lower (Kd.R_new' (Kd.R_new' (Kd.R_newM (M := fun k_ => (w.heap.size ≤ k_)) ho54 (below_size (by repeat (first | (with_reducible first | exact HB.out | apply below_alloc | apply pw_below_drewN | apply below_drew1) | exact HB.out))) (fun k_ h_ => h_)) (Kd.R_lt (by (with_reducible repeat (first | apply Kd.R_alloc | apply Kd.R_drewN | apply Kd.R_drew)); exact HO_8.out))) (Kd.R_lt (by (with_reducible repeat (first | apply Kd.R_alloc | apply Kd.R_drewN | apply Kd.R_drew)); exact HO_41.out))) (below_size (by repeat (first | (with_reducible first | exact HB.out | apply below_alloc | apply pw_below_drewN | apply below_drew1) | exact HB.out)))); have n4_ := Aside0.mk (below_step (by repeat (first | (with_reducible first | exact HB.out | apply below_alloc | apply pw_below_drewN | apply below_drew1) | exact HB.out)) hb); clear HO_0; clear HO_8; clear HO_41; clear HB; have HO_0 := n0_; have HO_8 := n1_; have HO_41 := n2_; have HO349 := n3_; have HB := n4_; clear n0_ n1_ n2_ n3_ n4_; clear hb ho54) | ((with_reducible refine gate_builtin (b := .append) (xs := #[.tmp 69, .tmp 70]) rfl ?_); at_builtin; refine Kd.R_append_rows k33 (w0 := w) w.heap.size rfl (.tmp 69) (.tmp 70) 22 33 (.agg #[(.int .i64 0), (.int .i64 0)]) 16 rfl Try.underlying22 info33 rfl (by decide) (by omega) v348 y347 l0 _ _ _ (fun k_ => (w.heap.size ≤ k_) ∧ some k_ ≠ (.slice Ao33 t334.length co33 : Value).ownBlock ∧ some k_ ≠ (.slice Ao33 t334.length co33 : Value).ownBlock) (fun _ => False) rfl rfl ?aO ?aR (fun _ _ h => h) (fun _ h => h.elim) ?aF ?aB ?aS ?aL ?_; (case aR => repeat (first | exact (Kd.V_reads' HO_0.out).2.2 | (with_reducible refine Kd.C_alloc ?_ _) | (with_reducible refine Kd.C_drewN ?_ _) | (with_reducible refine Kd.C_drew ?_))); (case aB => exact (by repeat (first | (with_reducible first | exact HB.out | apply below_alloc | apply pw_below_drewN | apply below_drew1) | exact HB.out))); (case aF => exact (fun k_ hk => ⟨(Nat.le_trans (below_size (by repeat (first | (with_reducible first | exact HB.out | apply below_alloc | apply pw_below_drewN | apply below_drew1) | exact HB.out))) hk), Kd.fresh' (Kd.R_lt (by (with_reducible repeat (first | apply Kd.R_alloc | apply Kd.R_drewN | apply Kd.R_drew)); exact HO_8.out)) k_ hk, Kd.fresh' (Kd.R_lt (by (with_reducible repeat (first | apply Kd.R_alloc | apply Kd.R_drewN | apply Kd.R_drew)); exact HO_41.out)) k_ hk⟩)); (case aO => exact (by (with_reducible repeat (first | apply Kd.R_alloc | apply Kd.R_drewN | apply Kd.R_drew)); exact Kd.R_mono HO349.out (fun _ hk => ⟨hk.1.1.1, ⟨hk.1.2, hk.2⟩⟩))); (case aS => exact (below_size (by repeat (first | (with_reducible first | exact HB.out | apply below_alloc | apply pw_below_drewN | apply below_drew1) | exact HB.out)))); (case aL => have := LMc51.out; omega); intro v351 w55 ho hb hg hat; rw [← Ny350.out] at ho; have n0_ := Aside0.mk (Kd.V_afterv (ok := (fun k_ => (P0_ k_ ∨ w.heap.size ≤ k_) ∧ some k_ ≠ (.slice Ao33 t334.length co33 : Value).ownBlock ∧ some k_ ≠ (.slice Ao33 t334.length co33 : Value).ownBlock)) (by (with_reducible repeat (first | apply Kd.V_alloc | apply Kd.V_drewN | apply Kd.V_drew)); exact HO_0.out) hg hat); have n1_ := Aside0.mk (Kd.R_after (ok := (fun k_ => (w.heap.size ≤ k_))) (by (with_reducible repeat (first | apply Kd.R_alloc | apply Kd.R_drewN | apply Kd.R_drew)); exact HO_8.out) hg hat); have n2_ := Aside0.mk (Kd.R_after (ok := (fun k_ => (w.heap.size ≤ k_))) (by (with_reducible repeat (first | apply Kd.R_alloc | apply Kd.R_drewN | apply Kd.R_drew)); exact HO_41.out) hg hat); have n3_ := Aside0.mk (hb); have n4_ := Aside0.mk (ho); clear HO_0; clear HO_8; clear HO_41; clear HB; clear HO349; have HO_0 := n0_; have HO_8 := n1_; have HO_41 := n2_; have HB := n3_; have HO352 := n4_; clear n0_ n1_ n2_ n3_ n4_; clear ho hb hg hat) | ((with_reducible refine gate_builtin (b := .append) (xs := #[.tmp 71, .tmp 72]) rfl ?_); at_builtin; refine Kd.R_append_rows k33 (w0 := w) w.heap.size rfl (.tmp 71) (.tmp 72) 22 33 (.agg #[(.int .i64 0), (.int .i64 0)]) 16 rfl Try.underlying22 info33 rfl (by decide) (by omega) v351 y350 t334 _ _ _ (fun k_ => (w.heap.size ≤ k_) ∧ some k_ ≠ (.slice Ao33 t334.length co33 : Value).ownBlock ∧ some k_ ≠ (.slice Ao33 t334.length co33 : Value).ownBlock) (fun _ => False) rfl rfl ?aO ?aR (fun _ _ h => h) (fun _ h => h.elim) ?aF ?aB ?aS ?aL ?_; (case aR => repeat (first | exact (Kd.R_reads' HO_8.out).2.2 | (with_reducible refine Kd.C_alloc ?_ _) | (with_reducible refine Kd.C_drewN ?_ _) | (with_reducible refine Kd.C_drew ?_))); (case aB => exact (by repeat (first | (with_reducible first | exact HB.out | apply below_alloc | apply pw_below_drewN | apply below_drew1) | exact HB.out))); (case aF => exact (fun k_ hk => ⟨(Nat.le_trans (below_size (by repeat (first | (with_reducible first | exact HB.out | apply below_alloc | apply pw_below_drewN | apply below_drew1) | exact HB.out))) hk), Kd.fresh' (Kd.R_lt (by (with_reducible repeat (first | apply Kd.R_alloc | apply Kd.R_drewN | apply Kd.R_drew)); exact HO_8.out)) k_ hk, Kd.fresh' (Kd.R_lt (by (with_reducible repeat (first | apply Kd.R_alloc | apply Kd.R_drewN | apply Kd.R_drew)); exact HO_41.out)) k_ hk⟩)); (case aO => exact (by (with_reducible repeat (first | apply Kd.R_alloc | apply Kd.R_drewN | apply Kd.R_drew)); exact HO352.out)); (case aS => exact (below_size (by repeat (first | (with_reducible first | exact HB.out | apply below_alloc | apply pw_below_drewN | apply below_drew1) | exact HB.out)))); (case aL => have := LMc52.out; omega); intro v354 w56 ho hb hg hat; rw [← Ny353.out] at ho; have n0_ := Aside0.mk (Kd.V_afterv (ok := (fun k_ => (P0_ k_ ∨ w.heap.size ≤ k_) ∧ some k_ ≠ (.slice Ao33 t334.length co33 : Value).ownBlock ∧ some k_ ≠ (.slice Ao33 t334.length co33 : Value).ownBlock)) (by (with_reducible repeat (first | apply Kd.V_alloc | apply Kd.V_drewN | apply Kd.V_drew)); exact HO_0.out) hg hat); have n1_ := Aside0.mk (Kd.R_after (ok := (fun k_ => (w.heap.size ≤ k_))) (by (with_reducible repeat (first | apply Kd.R_alloc | apply Kd.R_drewN | apply Kd.R_drew)); exact HO_8.out) hg hat); have n2_ := Aside0.mk (Kd.R_after (ok := (fun k_ => (w.heap.size ≤ k_))) (by (with_reducible repeat (first | apply Kd.R_alloc | apply Kd.R_drewN | apply Kd.R_drew)); exact HO_41.out) hg hat); have n3_ := Aside0.mk (hb); have n4_ := Aside0.mk (ho); clear HO_0; clear HO_8; clear HO_41; clear HB; clear HO352; have HO_0 := n0_; have HO_8 := n1_; have HO_41 := n2_; have HB := n3_; have HO355 := n4_; clear n0_ n1_ n2_ n3_ n4_; clear ho hb hg hat; obtain ⟨Ao57, co57, eo57⟩ := Kd.R_slice HO355.out; subst eo57))
                    go_loopg [75] k2 (fun kq v75 w' => ∃ (x75_3 : Int), v75 = .int .i64 x75_3 ∧ Aside0 (wageofficelaw04_SpanNormal.l1 kq l0 a1 a2 t329 t334 y353 (y353.length : Int) x75_3 = some r) ∧ Aside0 (kq ≤ k2) ∧ Aside0 (Kd.V k33 33 w' w.heap.size (fun k_ => (P0_ k_ ∨ w.heap.size ≤ k_) ∧ some k_ ≠ ((.slice Ao33 t334.length co33) : Value).ownBlock ∧ some k_ ≠ ((.slice Ao57 y353.length co57) : Value).ownBlock) (.slice A0 l0.length c0) l0) ∧ Aside0 (Kd.R k33 33 w' w.heap.size (fun k_ => (w.heap.size ≤ k_) ∧ some k_ ≠ ((.slice Ao57 y353.length co57) : Value).ownBlock) (.slice Ao33 t334.length co33) t334) ∧ Aside0 (Kd.R k33 33 w' w.heap.size (fun k_ => (w.heap.size ≤ k_) ∧ some k_ ≠ ((.slice Ao33 t334.length co33) : Value).ownBlock) (.slice Ao57 y353.length co57) y353) ∧ Aside0 (Below w.heap.size w w'))
                    case atStart => exact ⟨(0), (by first | rfl | (simp; done) | (simp [*]; done)), H', ⟨Nat.le_refl _⟩, ⟨by (with_reducible repeat (first | apply Kd.V_alloc | apply Kd.V_drewN | apply Kd.V_drew)); exact Kd.V_mono HO_0.out (fun _ hk => ⟨hk.1.1, ⟨hk.1.2.1, hk.2⟩⟩)⟩, ⟨by (with_reducible repeat (first | apply Kd.R_alloc | apply Kd.R_drewN | apply Kd.R_drew)); exact HO_8.out⟩, ⟨by (with_reducible repeat (first | apply Kd.R_alloc | apply Kd.R_drewN | apply Kd.R_drew)); exact Kd.R_mono HO355.out (fun _ hk => ⟨hk.1, hk.2.1⟩)⟩, ⟨by repeat (first | (with_reducible first | exact HB.out | apply below_alloc | apply pw_below_drewN | apply below_drew1) | exact HB.out)⟩⟩
                    case round =>
                      clear H'
                      try clear c1
                      try clear p2
                      try clear c3
                      try clear p3
                      try clear q3
                      try clear hx3
                      try clear c4
                      try clear c5
                      try clear c6
                      try clear p6
                      try clear c10
                      try clear c11
                      try clear c12
                      try clear c15
                      try clear c18
                      try clear c32
                      try clear c34
                      try clear c34b0
                      try clear p34
                      try clear q34
                      try clear hx34
                      try clear c35
                      try clear c35b0
                      try clear c36
                      try clear c36b0
                      try clear c37
                      try clear c37b0
                      try clear c38
                      try clear c38b0
                      try clear c40
                      try clear c40b0
                      try clear c41
                      try clear c41b0
                      try clear c42
                      try clear c42b0
                      try clear c51
                      try clear c52
                      try clear hcz44_0
                      try clear hcz44_1
                      try clear hcz48_0
                      try clear hcz48_1
                      try clear hfz44_0
                      try clear hfz44_1
                      try clear hfz48_0
                      try clear hfz48_1
                      try clear hx344_0
                      try clear hx344_1
                      try clear hx346_0
                      try clear hx346_1
                      try clear p2
                      try clear p344
                      try clear p346
                      try clear q344
                      try clear q346
                      obtain ⟨x75_3, rfl, HA, HK3, HO_0, HO_8, HO_73, HB⟩ := hrel
                      cases gk with
                      | zero => exact absurd HA.out (by simp [wageofficelaw04_SpanNormal.l1])
                      | succ k3 =>
                        have H := HA.out
                        clear HA
                        simp only [wageofficelaw04_SpanNormal.l1] at H
                        by_cases c58 : x75_3 < (y353.length : Int)
                        · rw [if_pos c58] at H
                          have c58b0 : decide (x75_3 < (y353.length : Int)) = true := decide_eq_true c58
                          clear c58
                          by_cases c59 : 0 ≤ x75_3
                          · rw [if_pos c59] at H
                            have c59b0 : decide (0 ≤ x75_3) = true := decide_eq_true c59
                            clear c59
                            by_cases c60 : x75_3 < (y353.length : Int)
                            · rw [if_pos c60] at H
                              have c60b0 : decide (x75_3 < (y353.length : Int)) = true := decide_eq_true c60
                              clear c60
                              have H' := Aside0.mk H
                              clear H
                              have p356 : 0 ≤ (x75_3 : Int) := of_decide_eq_true (by first | (with_reducible assumption) | assumption)
                              have q356 : x75_3 < (y353.length : Int) := of_decide_eq_true (by first | (with_reducible assumption) | assumption)
                              obtain ⟨ad356, e356, hx356_0, hx356_1⟩ := at_T33 (Kd.R_reads' HO_73.out).2.2 x75_3 p356 q356
                              cases e356
                              replace p356 := eq_true p356
                              replace q356 := eq_true q356
                              go_wp2_with (first | ((with_reducible refine gate_dst (N := 12) rfl ?_); refine box_event ?hg (N := 12) ?hd (cs := #[.int .i64 0, .int .i64 0]) (t := 33) ?hr ?_; (case hd => rfl); (case hg => rfl); (case hr => first | (go_simp; done) | (go_simp; rfl)); intro gb357 hg w61 hbox hb; have n0_ := Aside0.mk (Kd.V_below (Kd.V_elderB (by (with_reducible repeat (first | apply Kd.V_alloc | apply Kd.V_drewN | apply Kd.V_drew)); exact HO_0.out) gb357 (Nat.le_of_eq hg.symm)) hb); have n1_ := Aside0.mk (Kd.R_below (Kd.R_elderB (by (with_reducible repeat (first | apply Kd.R_alloc | apply Kd.R_drewN | apply Kd.R_drew)); exact HO_8.out) gb357 (Nat.le_of_eq hg.symm)) hb); have n2_ := Aside0.mk (Kd.R_below (Kd.R_elderB (by (with_reducible repeat (first | apply Kd.R_alloc | apply Kd.R_drewN | apply Kd.R_drew)); exact HO_73.out) gb357 (Nat.le_of_eq hg.symm)) hb); have n3_ := Aside0.mk (below_step (by repeat (first | (with_reducible first | exact HB.out | apply below_alloc | apply pw_below_drewN | apply below_drew1) | exact HB.out)) hb); have n4_ := Aside0.mk (hbox); have n5_ := Aside0.mk ((by rw [hg]; exact (below_size (by repeat (first | (with_reducible first | exact HB.out | apply below_alloc | apply pw_below_drewN | apply below_drew1) | exact HB.out))) : w.heap.size ≤ gb357)); have n6_ := Aside0.mk ((by rw [hg]; exact (below_size (by repeat (first | (with_reducible first | exact HB.out | apply below_alloc | apply pw_below_drewN | apply below_drew1) | exact HB.out))) : w.heap.size ≤ gb357)); clear HO_0; clear HO_8; clear HO_73; clear HB; have HO_0 := n0_; have HO_8 := n1_; have HO_73 := n2_; have HB := n3_; have BK357 := n4_; have GW357 := n5_; have GE357 := n6_; clear n0_ n1_ n2_ n3_ n4_ n5_ n6_; clear hb hbox hg; have hcz62_0 : w61.cell? ⟨gb357, 0, none⟩ = some (.int .i64 0) := (blk_cell BK357.out 0).trans rfl; have hcz62_1 : w61.cell? ⟨gb357, 1, none⟩ = some (.int .i64 0) := (blk_cell BK357.out 1).trans rfl; have hfz62_0 := blk_frozen BK357.out 0; have hfz62_1 := blk_frozen BK357.out 1))
                              go_loopg [13] k3 (fun kq v13 w' => ∃ (x13_4 : Int), v13 = .int .i64 x13_4 ∧ Aside0 (wageofficelaw04_SpanNormal.l2 kq l0 a1 a2 t329 t334 x13_4 y353 (y353.length : Int) x75_3 ((rd_T33 y353 x75_3).f0) ((rd_T33 y353 x75_3).f1) = some r) ∧ Aside0 (kq ≤ k3) ∧ Aside0 (Kd.V k33 33 w' w.heap.size (fun k_ => (P0_ k_ ∨ w.heap.size ≤ k_) ∧ some k_ ≠ ((.slice Ao33 t334.length co33) : Value).ownBlock ∧ some k_ ≠ ((.slice (some ad356) y353.length co57) : Value).ownBlock ∧ k_ ≠ gb357) (.slice A0 l0.length c0) l0) ∧ Aside0 (Kd.R k33 33 w' w.heap.size (fun k_ => (w.heap.size ≤ k_) ∧ some k_ ≠ ((.slice (some ad356) y353.length co57) : Value).ownBlock ∧ k_ ≠ gb357) (.slice Ao33 t334.length co33) t334) ∧ Aside0 (Kd.R k33 33 w' w.heap.size (fun k_ => (w.heap.size ≤ k_) ∧ some k_ ≠ ((.slice Ao33 t334.length co33) : Value).ownBlock ∧ k_ ≠ gb357) (.slice (some ad356) y353.length co57) y353) ∧ Aside0 (w'.heap[gb357]? = some (.cells #[.int .i64 ((rd_T33 y353 x75_3).f0), .int .i64 ((rd_T33 y353 x75_3).f1)] 33 (0, 0))) ∧ Aside0 (Below w.heap.size w w'))
                              case atStart => exact ⟨((-1)), (by first | rfl | (simp; done) | (simp [*]; done)), H', ⟨Nat.le_refl _⟩, ⟨by (with_reducible repeat (first | apply Kd.V_alloc | apply Kd.V_drewN | apply Kd.V_drew)); exact Kd.V_mono (Kd.V_far (p := ⟨gb357, 1, none⟩) (Kd.V_far (p := ⟨gb357, 0, none⟩) (Kd.V_mono HO_0.out (fun k_ hk => (⟨hk, hk.2⟩ : _ ∧ k_ ≠ gb357))) (fun _ hk => hk.2) (.int .i64 ((rd_T33 y353 x75_3).f0))) (fun _ hk => hk.2) (.int .i64 ((rd_T33 y353 x75_3).f1))) (fun _ hk => ⟨hk.1.1.1, ⟨hk.1.1.2.1, ⟨hk.1.1.2.2, hk.1.2⟩⟩⟩)⟩, ⟨by (with_reducible repeat (first | apply Kd.R_alloc | apply Kd.R_drewN | apply Kd.R_drew)); exact Kd.R_mono (Kd.R_far (p := ⟨gb357, 1, none⟩) (Kd.R_far (p := ⟨gb357, 0, none⟩) (Kd.R_mono HO_8.out (fun k_ hk => (⟨hk, hk.2⟩ : _ ∧ k_ ≠ gb357))) (fun _ hk => hk.2) (.int .i64 ((rd_T33 y353 x75_3).f0))) (fun _ hk => hk.2) (.int .i64 ((rd_T33 y353 x75_3).f1))) (fun _ hk => ⟨hk.1.1.1, ⟨hk.1.1.2, hk.1.2⟩⟩)⟩, ⟨by (with_reducible repeat (first | apply Kd.R_alloc | apply Kd.R_drewN | apply Kd.R_drew)); exact Kd.R_mono (Kd.R_far (p := ⟨gb357, 1, none⟩) (Kd.R_far (p := ⟨gb357, 0, none⟩) (Kd.R_mono HO_73.out (fun k_ hk => (⟨hk, hk.2⟩ : _ ∧ k_ ≠ gb357))) (fun _ hk => hk.2) (.int .i64 ((rd_T33 y353 x75_3).f0))) (fun _ hk => hk.2) (.int .i64 ((rd_T33 y353 x75_3).f1))) (fun _ hk => ⟨hk.1.1.1, ⟨hk.1.1.2, hk.1.2⟩⟩)⟩, ⟨by (with_reducible repeat (first | refine blk_drewN ?_ _ | refine blk_drew ?_ | refine blk_alloc ?_ _)); refine blk_put (cs := #[.int .i64 ((rd_T33 y353 x75_3).f0), .int .i64 0]) ?_ 1 _ rfl; (with_reducible repeat (first | refine blk_drewN ?_ _ | refine blk_drew ?_ | refine blk_alloc ?_ _)); refine blk_put (cs := #[.int .i64 0, .int .i64 0]) ?_ 0 _ rfl; (with_reducible repeat (first | refine blk_drewN ?_ _ | refine blk_drew ?_ | refine blk_alloc ?_ _)); exact BK357.out⟩, ⟨by repeat (first | (with_reducible first | exact HB.out | apply below_alloc | apply pw_below_drewN | apply below_drew1 | refine below_set ?_ GE357.out) | exact HB.out)⟩⟩
                              case round =>
                                clear H'
                                try clear c1
                                try clear p2
                                try clear c3
                                try clear p3
                                try clear q3
                                try clear hx3
                                try clear c4
                                try clear c5
                                try clear c6
                                try clear p6
                                try clear c10
                                try clear c11
                                try clear c12
                                try clear c15
                                try clear c18
                                try clear c32
                                try clear c34
                                try clear c34b0
                                try clear p34
                                try clear q34
                                try clear hx34
                                try clear c35
                                try clear c35b0
                                try clear p35
                                try clear q35
                                try clear hx35
                                try clear c36
                                try clear c36b0
                                try clear c37
                                try clear c37b0
                                try clear c38
                                try clear c38b0
                                try clear c40
                                try clear c40b0
                                try clear c41
                                try clear c41b0
                                try clear c42
                                try clear c42b0
                                try clear c51
                                try clear c52
                                try clear c58
                                try clear c58b0
                                try clear c59
                                try clear c59b0
                                try clear c60
                                try clear c60b0
                                try clear hcz44_0
                                try clear hcz44_1
                                try clear hcz48_0
                                try clear hcz48_1
                                try clear hcz62_0
                                try clear hcz62_1
                                try clear hfz44_0
                                try clear hfz44_1
                                try clear hfz48_0
                                try clear hfz48_1
                                try clear hfz62_0
                                try clear hfz62_1
                                try clear hx344_0
                                try clear hx344_1
                                try clear hx346_0
                                try clear hx346_1
                                try clear hx356_0
                                try clear hx356_1
                                try clear p2
                                try clear p3
                                try clear p34
                                try clear p344
                                try clear p346
                                try clear p356
                                try clear p6
                                try clear q3
                                try clear q34
                                try clear q344
                                try clear q346
                                try clear q356
                                obtain ⟨x13_4, rfl, HA, HK4, HO_0, HO_8, HO_73, BK357, HB⟩ := hrel
                                cases gk with
                                | zero => exact absurd HA.out (by simp [wageofficelaw04_SpanNormal.l2])
                                | succ k4 =>
                                  have H := HA.out
                                  clear HA
                                  simp only [wageofficelaw04_SpanNormal.l2] at H
                                  by_cases c63 : x13_4 ≤ 1
                                  · rw [if_pos c63] at H
                                    have c63b0 : decide (x13_4 ≤ 1) = true := decide_eq_true c63
                                    clear c63
                                    replace H := Option.bind_eq_some_iff.mp H
                                    obtain ⟨t358, A640, H⟩ := H
                                    replace H : (if t358 = true then ((span_Has.f l0 (wrap64 (((rd_T33 y353 x75_3).f0) + x13_4))).bind fun t359 => ((span_Has.f t334 (wrap64 (((rd_T33 y353 x75_3).f0) + x13_4))).bind fun t360 => (if (t359 != t360) = true then (none) else ((span_Has.f l0 (wrap64 (((rd_T33 y353 x75_3).f1) + x13_4))).bind fun t361 => ((span_Has.f t334 (wrap64 (((rd_T33 y353 x75_3).f1) + x13_4))).bind fun t362 => (if (t361 != t362) = true then (none) else (wageofficelaw04_SpanNormal.l2 k4 l0 a1 a2 t329 t334 (wrap64 (x13_4 + 1)) y353 (y353.length : Int) x75_3 ((rd_T33 y353 x75_3).f0) ((rd_T33 y353 x75_3).f1)))))))) else (wageofficelaw04_SpanNormal.l2 k4 l0 a1 a2 t329 t334 (wrap64 (x13_4 + 1)) y353 (y353.length : Int) x75_3 ((rd_T33 y353 x75_3).f0) ((rd_T33 y353 x75_3).f1))) = some r := H
                                    have A64 := Aside0.mk A640
                                    clear A640
                                    by_cases c65 : t358 = true
                                    · subst c65
                                      have H1 : ((span_Has.f l0 (wrap64 (((rd_T33 y353 x75_3).f0) + x13_4))).bind fun t359 => ((span_Has.f t334 (wrap64 (((rd_T33 y353 x75_3).f0) + x13_4))).bind fun t360 => (if (t359 != t360) = true then (none) else ((span_Has.f l0 (wrap64 (((rd_T33 y353 x75_3).f1) + x13_4))).bind fun t361 => ((span_Has.f t334 (wrap64 (((rd_T33 y353 x75_3).f1) + x13_4))).bind fun t362 => (if (t361 != t362) = true then (none) else (wageofficelaw04_SpanNormal.l2 k4 l0 a1 a2 t329 t334 (wrap64 (x13_4 + 1)) y353 (y353.length : Int) x75_3 ((rd_T33 y353 x75_3).f0) ((rd_T33 y353 x75_3).f1)))))))) = some r := by rw [if_pos rfl] at H; exact H
                                      clear H
                                      have H := H1
                                      clear H1
                                      replace H := Option.bind_eq_some_iff.mp H
                                      obtain ⟨t359, A660, H⟩ := H
                                      replace H : ((span_Has.f t334 (wrap64 (((rd_T33 y353 x75_3).f0) + x13_4))).bind fun t360 => (if (t359 != t360) = true then (none) else ((span_Has.f l0 (wrap64 (((rd_T33 y353 x75_3).f1) + x13_4))).bind fun t361 => ((span_Has.f t334 (wrap64 (((rd_T33 y353 x75_3).f1) + x13_4))).bind fun t362 => (if (t361 != t362) = true then (none) else (wageofficelaw04_SpanNormal.l2 k4 l0 a1 a2 t329 t334 (wrap64 (x13_4 + 1)) y353 (y353.length : Int) x75_3 ((rd_T33 y353 x75_3).f0) ((rd_T33 y353 x75_3).f1))))))) = some r := H
                                      have A66 := Aside0.mk A660
                                      clear A660
                                      replace H := Option.bind_eq_some_iff.mp H
                                      obtain ⟨t360, A670, H⟩ := H
                                      replace H : (if (t359 != t360) = true then (none) else ((span_Has.f l0 (wrap64 (((rd_T33 y353 x75_3).f1) + x13_4))).bind fun t361 => ((span_Has.f t334 (wrap64 (((rd_T33 y353 x75_3).f1) + x13_4))).bind fun t362 => (if (t361 != t362) = true then (none) else (wageofficelaw04_SpanNormal.l2 k4 l0 a1 a2 t329 t334 (wrap64 (x13_4 + 1)) y353 (y353.length : Int) x75_3 ((rd_T33 y353 x75_3).f0) ((rd_T33 y353 x75_3).f1)))))) = some r := H
                                      have A67 := Aside0.mk A670
                                      clear A670
                                      by_cases c68 : (t359 != t360) = true
                                      · rw [if_pos c68] at H
                                        have c68b0 : (t359 != t360) = true := c68
                                        (try (have c68b1 : decide (t359 = t360) = false := by simpa using c68))
                                        (try (have c68b2 : (t359 == t360) = false := by simpa using c68))
                                        (try (have c68b3 : ¬ (t359 = t360) := by simpa using c68))
                                        clear c68
                                        exact absurd H (by simp)
                                      · rw [if_neg c68] at H
                                        have c68b0 : (t359 != t360) = false := by simpa using c68
                                        (try (have c68b1 : decide (t359 = t360) = true := by simpa using c68))
                                        (try (have c68b2 : (t359 == t360) = true := by simpa using c68))
                                        clear c68
                                        replace H := Option.bind_eq_some_iff.mp H
                                        obtain ⟨t361, A690, H⟩ := H
                                        replace H : ((span_Has.f t334 (wrap64 (((rd_T33 y353 x75_3).f1) + x13_4))).bind fun t362 => (if (t361 != t362) = true then (none) else (wageofficelaw04_SpanNormal.l2 k4 l0 a1 a2 t329 t334 (wrap64 (x13_4 + 1)) y353 (y353.length : Int) x75_3 ((rd_T33 y353 x75_3).f0) ((rd_T33 y353 x75_3).f1)))) = some r := H
                                        have A69 := Aside0.mk A690
                                        clear A690
                                        replace H := Option.bind_eq_some_iff.mp H
                                        obtain ⟨t362, A700, H⟩ := H
                                        replace H : (if (t361 != t362) = true then (none) else (wageofficelaw04_SpanNormal.l2 k4 l0 a1 a2 t329 t334 (wrap64 (x13_4 + 1)) y353 (y353.length : Int) x75_3 ((rd_T33 y353 x75_3).f0) ((rd_T33 y353 x75_3).f1))) = some r := H
                                        have A70 := Aside0.mk A700
                                        clear A700
                                        by_cases c71 : (t361 != t362) = true
                                        · rw [if_pos c71] at H
                                          exact absurd H (by simp)
                                        · rw [if_neg c71] at H
                                          have c71b0 : (t361 != t362) = false := by simpa using c71
                                          (try (have c71b1 : decide (t361 = t362) = true := by simpa using c71))
                                          (try (have c71b2 : (t361 == t362) = true := by simpa using c71))
                                          clear c71
                                          have H' := Aside0.mk H
                                          clear H
                                          try go_wp2
                                          have n0_ := Aside0.mk (Kd.V_drew HO_0.out)
                                          have n1_ := Aside0.mk (Kd.R_drew HO_8.out)
                                          have n2_ := Aside0.mk (Kd.R_drew HO_73.out)
                                          have n3_ := Aside0.mk (blk_drew BK357.out)
                                          have n4_ := Aside0.mk (below_drew1 HB.out)
                                          clear HO_0
                                          clear HO_8
                                          clear HO_73
                                          clear BK357
                                          clear HB
                                          have HO_0 := n0_
                                          have HO_8 := n1_
                                          have HO_73 := n2_
                                          have BK357 := n3_
                                          have HB := n4_
                                          clear n0_ n1_ n2_ n3_ n4_
                                          refine start_ (n := 32) (S := fun w' => w'.cell? ⟨gb357, 0, none⟩ = some (.int .i64 ((rd_T33 y353 x75_3).f0)) ∧ w'.cell? ⟨gb357, 1, none⟩ = some (.int .i64 ((rd_T33 y353 x75_3).f1))) (ds := []) #[false, false, false, false, false, false, false, false, false, false, false, false, false, false, false, false, false, false, false, false, false, false, false, false, false, false, false, false, false, false, false, false] (by kernel_rfl) rfl rfl ⟨(blk_cell BK357.out 0).trans rfl, (blk_cell BK357.out 1).trans rfl⟩ (fun hHeld => ?_); refine with_tabW wageofficelaw04_SpanNormal.tab19 wageofficelaw04_SpanNormal.bits19 (fun HT_ HW_ => ?_)
                                          generalize wr.drew = w72 at HO_0 HO_8 HO_73 BK357 HB hHeld ⊢
                                          refine take_ (i := 0) (N := some 83) (v := ?_) (a' := ?_) #[true, false, false, false, false, false, false, false, false, false, false, false, false, false, false, false, false, false, false, false, false, false, false, false, false, false, false, false, false, false, false, false] rfl rfl (take_ofW HT_.out HW_.out (by kernel_rfl)) (fun _ _ _ h => h) (Or.inl ⟨by rfl, ?_⟩) hHeld ?_ ?_
                                          rotate_left
                                          · rintro w' ⟨s0, s1⟩
                                            go_simp
                                            with_reducible rfl
                                          rotate_left
                                          · simp only [Act.put, List.setIfInBounds_toArray, List.set_cons_zero, List.set_cons_succ, i64_w, i32_w]
                                            rfl
                                          refine one_ (i := 1) (N := some 84) #[true, true, false, false, false, false, false, false, false, false, false, false, false, false, false, false, false, false, false, false, false, false, false, false, false, false, false, false, false, false, false, false] rfl rfl (one_of HT_.out (by kernel_rfl)) (by decide) (fun K hK => ?_)
                                          refine goes_ Try.func27 (by kernel_rfl) rfl #[.agg #[.int .i64 ((rd_T33 y353 x75_3).f0), .int .i64 ((rd_T33 y353 x75_3).f1)]] (by rfl) rfl rfl (by (try simp only [List.map_toArray, List.map_cons, List.map_nil]); first | done | rfl | (simp only [List.length_drop, List.length_take]; rfl)) ?_
                                          with_reducible refine (wageofficelaw04_far.calls ((rd_T33 y353 x75_3).f0) ((rd_T33 y353 x75_3).f1) true _ A64.out).mono ?_
                                          rintro e w73 ⟨rfl, hb⟩
                                          refine ⟨_, rfl, ?_⟩
                                          have n0_ := Aside0.mk (Kd.V_below (by (with_reducible repeat (first | apply Kd.V_alloc | apply Kd.V_drewN | apply Kd.V_drew)); exact HO_0.out) hb)
                                          have n1_ := Aside0.mk (Kd.R_below (by (with_reducible repeat (first | apply Kd.R_alloc | apply Kd.R_drewN | apply Kd.R_drew)); exact HO_8.out) hb)
                                          have n2_ := Aside0.mk (Kd.R_below (by (with_reducible repeat (first | apply Kd.R_alloc | apply Kd.R_drewN | apply Kd.R_drew)); exact HO_73.out) hb)
                                          have n3_ := Aside0.mk (blk_below (g := gb357) (o := .cells #[.int .i64 ((rd_T33 y353 x75_3).f0), .int .i64 ((rd_T33 y353 x75_3).f1)] 33 (0, 0)) (by (with_reducible repeat (first | refine blk_drewN ?_ _ | refine blk_drew ?_ | refine blk_alloc ?_ _)); exact BK357.out) hb)
                                          have n4_ := Aside0.mk (below_step (by repeat (first | (with_reducible first | exact HB.out | apply below_alloc | apply pw_below_drewN | apply below_drew1 | refine below_set ?_ GE357.out) | exact HB.out)) hb)
                                          clear HO_0
                                          clear HO_8
                                          clear HO_73
                                          clear BK357
                                          clear HB
                                          have HO_0 := n0_
                                          have HO_8 := n1_
                                          have HO_73 := n2_
                                          have BK357 := n3_
                                          have HB := n4_
                                          clear n0_ n1_ n2_ n3_ n4_
                                          (try clear hb)
                                          (try clear hb2)
                                          (try clear hk)
                                          (try clear hi)
                                          refine hK.out _ _ ⟨(blk_cell BK357.out 0).trans rfl, (blk_cell BK357.out 1).trans rfl⟩ (fun hHeld => ?_)
                                          clear hK K
                                          refine norm_ (a' := ?_) ?_ ?_
                                          rotate_left
                                          · show Act.put _ (some 84) _ = _
                                            simp only [Act.put, List.setIfInBounds_toArray, List.set_cons_zero, List.set_cons_succ, i64_w, i32_w]
                                            rfl
                                          refine pure_ (i := 2) (N := some 85) (v := ?_) (a' := ?_) #[true, true, true, false, false, false, false, false, false, false, false, false, false, false, false, false, false, false, false, false, false, false, false, false, false, false, false, false, false, false, false, false] rfl rfl (any_of HT_.out (by kernel_rfl)) (fun _ _ _ h => h) (Or.inl ⟨by rfl, ?_⟩) ?_ ?_
                                          rotate_left
                                          · intro w'
                                            go_simp
                                            with_reducible rfl
                                          rotate_left
                                          · simp only [Act.put, List.setIfInBounds_toArray, List.set_cons_zero, List.set_cons_succ, i64_w, i32_w]
                                            rfl
                                          refine pure_ (i := 3) (N := some 86) (v := ?_) (a' := ?_) #[true, true, true, true, false, false, false, false, false, false, false, false, false, false, false, false, false, false, false, false, false, false, false, false, false, false, false, false, false, false, false, false] rfl rfl (any_of HT_.out (by kernel_rfl)) (fun _ _ _ h => h) (Or.inl ⟨by rfl, ?_⟩) ?_ ?_
                                          rotate_left
                                          · intro w'
                                            go_simp
                                            with_reducible rfl
                                          rotate_left
                                          · simp only [Act.put, List.setIfInBounds_toArray, List.set_cons_zero, List.set_cons_succ, i64_w, i32_w]
                                            rfl
                                          refine pure_ (i := 4) (N := some 87) (v := ?_) (a' := ?_) #[true, true, true, true, true, false, false, false, false, false, false, false, false, false, false, false, false, false, false, false, false, false, false, false, false, false, false, false, false, false, false, false] rfl rfl (any_of HT_.out (by kernel_rfl)) (fun _ _ _ h => h) (Or.inl ⟨by rfl, ?_⟩) ?_ ?_
                                          rotate_left
                                          · intro w'
                                            go_simp
                                            with_reducible rfl
                                          rotate_left
                                          · simp only [Act.put, List.setIfInBounds_toArray, List.set_cons_zero, List.set_cons_succ, i64_w, i32_w]
                                            rfl
                                          refine pure_ (i := 6) (N := some 89) (v := ?_) (a' := ?_) #[true, true, true, true, true, false, true, false, false, false, false, false, false, false, false, false, false, false, false, false, false, false, false, false, false, false, false, false, false, false, false, false] rfl rfl (any_of HT_.out (by kernel_rfl)) (fun _ _ _ h => h) (Or.inl ⟨by rfl, ?_⟩) ?_ ?_
                                          rotate_left
                                          · intro w'
                                            go_simp
                                            with_reducible rfl
                                          rotate_left
                                          · simp only [Act.put, List.setIfInBounds_toArray, List.set_cons_zero, List.set_cons_succ, i64_w, i32_w]
                                            rfl
                                          refine pure_ (i := 9) (N := some 92) (v := ?_) (a' := ?_) #[true, true, true, true, true, false, true, false, false, true, false, false, false, false, false, false, false, false, false, false, false, false, false, false, false, false, false, false, false, false, false, false] rfl rfl (any_of HT_.out (by kernel_rfl)) (fun _ _ _ h => h) (Or.inl ⟨by rfl, ?_⟩) ?_ ?_
                                          rotate_left
                                          · intro w'
                                            go_simp
                                            with_reducible rfl
                                          rotate_left
                                          · simp only [Act.put, List.setIfInBounds_toArray, List.set_cons_zero, List.set_cons_succ, i64_w, i32_w]
                                            rfl
                                          refine pure_ (i := 10) (N := some 93) (v := ?_) (a' := ?_) #[true, true, true, true, true, false, true, false, false, true, true, false, false, false, false, false, false, false, false, false, false, false, false, false, false, false, false, false, false, false, false, false] rfl rfl (any_of HT_.out (by kernel_rfl)) (fun _ _ _ h => h) (Or.inl ⟨by rfl, ?_⟩) ?_ ?_
                                          rotate_left
                                          · intro w'
                                            go_simp
                                            with_reducible rfl
                                          rotate_left
                                          · simp only [Act.put, List.setIfInBounds_toArray, List.set_cons_zero, List.set_cons_succ, i64_w, i32_w]
                                            rfl
                                          refine pure_ (i := 12) (N := some 95) (v := ?_) (a' := ?_) #[true, true, true, true, true, false, true, false, false, true, true, false, true, false, false, false, false, false, false, false, false, false, false, false, false, false, false, false, false, false, false, false] rfl rfl (any_of HT_.out (by kernel_rfl)) (fun _ _ _ h => h) (Or.inl ⟨by rfl, ?_⟩) ?_ ?_
                                          rotate_left
                                          · intro w'
                                            go_simp
                                            with_reducible rfl
                                          rotate_left
                                          · simp only [Act.put, List.setIfInBounds_toArray, List.set_cons_zero, List.set_cons_succ, i64_w, i32_w]
                                            rfl
                                          refine take_ (i := 5) (N := some 88) (v := ?_) (a' := ?_) #[true, true, true, true, true, true, true, false, false, true, true, false, true, false, false, false, false, false, false, false, false, false, false, false, false, false, false, false, false, false, false, false] rfl rfl (take_ofW HT_.out HW_.out (by kernel_rfl)) (fun _ _ _ h => h) (Or.inl ⟨by rfl, ?_⟩) hHeld ?_ ?_
                                          rotate_left
                                          · rintro w' ⟨s0, s1⟩
                                            go_simp
                                            with_reducible rfl
                                          rotate_left
                                          · simp only [Act.put, List.setIfInBounds_toArray, List.set_cons_zero, List.set_cons_succ, i64_w, i32_w]
                                            rfl
                                          refine pure_ (i := 7) (N := some 90) (v := ?_) (a' := ?_) #[true, true, true, true, true, true, true, true, false, true, true, false, true, false, false, false, false, false, false, false, false, false, false, false, false, false, false, false, false, false, false, false] rfl rfl (any_of HT_.out (by kernel_rfl)) (fun _ _ _ h => h) (Or.inl ⟨by rfl, ?_⟩) ?_ ?_
                                          rotate_left
                                          · intro w'
                                            go_simp
                                            with_reducible rfl
                                          rotate_left
                                          · simp only [Act.put, List.setIfInBounds_toArray, List.set_cons_zero, List.set_cons_succ, i64_w, i32_w]
                                            rfl
                                          refine take_ (i := 11) (N := some 94) (v := ?_) (a' := ?_) #[true, true, true, true, true, true, true, true, false, true, true, true, true, false, false, false, false, false, false, false, false, false, false, false, false, false, false, false, false, false, false, false] rfl rfl (take_ofW HT_.out HW_.out (by kernel_rfl)) (fun _ _ _ h => h) (Or.inl ⟨by rfl, ?_⟩) hHeld ?_ ?_
                                          rotate_left
                                          · rintro w' ⟨s0, s1⟩
                                            go_simp
                                            with_reducible rfl
                                          rotate_left
                                          · simp only [Act.put, List.setIfInBounds_toArray, List.set_cons_zero, List.set_cons_succ, i64_w, i32_w]
                                            rfl
                                          refine pure_ (i := 13) (N := some 96) (v := ?_) (a' := ?_) #[true, true, true, true, true, true, true, true, false, true, true, true, true, true, false, false, false, false, false, false, false, false, false, false, false, false, false, false, false, false, false, false] rfl rfl (any_of HT_.out (by kernel_rfl)) (fun _ _ _ h => h) (Or.inl ⟨by rfl, ?_⟩) ?_ ?_
                                          rotate_left
                                          · intro w'
                                            go_simp
                                            with_reducible rfl
                                          rotate_left
                                          · simp only [Act.put, List.setIfInBounds_toArray, List.set_cons_zero, List.set_cons_succ, i64_w, i32_w]
                                            rfl
                                          refine one_ (i := 8) (N := some 91) #[true, true, true, true, true, true, true, true, true, true, true, true, true, true, false, false, false, false, false, false, false, false, false, false, false, false, false, false, false, false, false, false] rfl rfl (one_of HT_.out (by kernel_rfl)) (by decide) (fun K hK => ?_)
                                          refine goes_ Try.func23 (by kernel_rfl) rfl #[.slice A0 l0.length c0, .int .i64 (wrap64 (((rd_T33 y353 x75_3).f0) + x13_4))] (by rfl) rfl rfl (by (try simp only [List.map_toArray, List.map_cons, List.map_nil]); first | done | rfl | (simp only [List.length_drop, List.length_take]; rfl)) ?_
                                          with_reducible refine (span_Has.calls _ _ l0 (wrap64 (((rd_T33 y353 x75_3).f0) + x13_4)) t359 _ ?side1 ?side2 A66.out).mono ?_
                                          (case side1 => repeat (first | exact (Kd.V_reads' HO_0.out).2.2 | (with_reducible refine Kd.C_alloc ?_ _) | (with_reducible refine Kd.C_drewN ?_ _) | (with_reducible refine Kd.C_drew ?_)))
                                          (case side2 => exact (Kd.V_reads' HO_0.out).2.1)
                                          rintro e w74 ⟨rfl, hb⟩
                                          refine ⟨_, rfl, ?_⟩
                                          have n0_ := Aside0.mk (Kd.V_below (by (with_reducible repeat (first | apply Kd.V_alloc | apply Kd.V_drewN | apply Kd.V_drew)); exact HO_0.out) hb)
                                          have n1_ := Aside0.mk (Kd.R_below (by (with_reducible repeat (first | apply Kd.R_alloc | apply Kd.R_drewN | apply Kd.R_drew)); exact HO_8.out) hb)
                                          have n2_ := Aside0.mk (Kd.R_below (by (with_reducible repeat (first | apply Kd.R_alloc | apply Kd.R_drewN | apply Kd.R_drew)); exact HO_73.out) hb)
                                          have n3_ := Aside0.mk (blk_below (g := gb357) (o := .cells #[.int .i64 ((rd_T33 y353 x75_3).f0), .int .i64 ((rd_T33 y353 x75_3).f1)] 33 (0, 0)) (by (with_reducible repeat (first | refine blk_drewN ?_ _ | refine blk_drew ?_ | refine blk_alloc ?_ _)); exact BK357.out) hb)
                                          have n4_ := Aside0.mk (below_step (by repeat (first | (with_reducible first | exact HB.out | apply below_alloc | apply pw_below_drewN | apply below_drew1 | refine below_set ?_ GE357.out) | exact HB.out)) hb)
                                          clear HO_0
                                          clear HO_8
                                          clear HO_73
                                          clear BK357
                                          clear HB
                                          have HO_0 := n0_
                                          have HO_8 := n1_
                                          have HO_73 := n2_
                                          have BK357 := n3_
                                          have HB := n4_
                                          clear n0_ n1_ n2_ n3_ n4_
                                          (try clear hb)
                                          (try clear hb2)
                                          (try clear hk)
                                          (try clear hi)
                                          refine hK.out _ _ ⟨(blk_cell BK357.out 0).trans rfl, (blk_cell BK357.out 1).trans rfl⟩ (fun hHeld => ?_)
                                          clear hK K
                                          refine norm_ (a' := ?_) ?_ ?_
                                          rotate_left
                                          · show Act.put _ (some 91) _ = _
                                            simp only [Act.put, List.setIfInBounds_toArray, List.set_cons_zero, List.set_cons_succ, i64_w, i32_w]
                                            rfl
                                          refine one_ (i := 14) (N := some 97) #[true, true, true, true, true, true, true, true, true, true, true, true, true, true, true, false, false, false, false, false, false, false, false, false, false, false, false, false, false, false, false, false] rfl rfl (one_of HT_.out (by kernel_rfl)) (by decide) (fun K hK => ?_)
                                          refine goes_ Try.func23 (by kernel_rfl) rfl #[.slice Ao33 t334.length co33, .int .i64 (wrap64 (((rd_T33 y353 x75_3).f0) + x13_4))] (by rfl) rfl rfl (by (try simp only [List.map_toArray, List.map_cons, List.map_nil]); first | done | rfl | (simp only [List.length_drop, List.length_take]; rfl)) ?_
                                          with_reducible refine (span_Has.calls _ _ t334 (wrap64 (((rd_T33 y353 x75_3).f0) + x13_4)) t360 _ ?side1 ?side2 A67.out).mono ?_
                                          (case side1 => repeat (first | exact (Kd.R_reads' HO_8.out).2.2 | (with_reducible refine Kd.C_alloc ?_ _) | (with_reducible refine Kd.C_drewN ?_ _) | (with_reducible refine Kd.C_drew ?_)))
                                          (case side2 => exact (Kd.R_reads' HO_8.out).2.1)
                                          rintro e w75 ⟨rfl, hb⟩
                                          refine ⟨_, rfl, ?_⟩
                                          have n0_ := Aside0.mk (Kd.V_below (by (with_reducible repeat (first | apply Kd.V_alloc | apply Kd.V_drewN | apply Kd.V_drew)); exact HO_0.out) hb)
                                          have n1_ := Aside0.mk (Kd.R_below (by (with_reducible repeat (first | apply Kd.R_alloc | apply Kd.R_drewN | apply Kd.R_drew)); exact HO_8.out) hb)
                                          have n2_ := Aside0.mk (Kd.R_below (by (with_reducible repeat (first | apply Kd.R_alloc | apply Kd.R_drewN | apply Kd.R_drew)); exact HO_73.out) hb)
                                          have n3_ := Aside0.mk (blk_below (g := gb357) (o := .cells #[.int .i64 ((rd_T33 y353 x75_3).f0), .int .i64 ((rd_T33 y353 x75_3).f1)] 33 (0, 0)) (by (with_reducible repeat (first | refine blk_drewN ?_ _ | refine blk_drew ?_ | refine blk_alloc ?_ _)); exact BK357.out) hb)
                                          have n4_ := Aside0.mk (below_step (by repeat (first | (with_reducible first | exact HB.out | apply below_alloc | apply pw_below_drewN | apply below_drew1 | refine below_set ?_ GE357.out) | exact HB.out)) hb)
                                          clear HO_0
                                          clear HO_8
                                          clear HO_73
                                          clear BK357
                                          clear HB
                                          have HO_0 := n0_
                                          have HO_8 := n1_
                                          have HO_73 := n2_
                                          have BK357 := n3_
                                          have HB := n4_
                                          clear n0_ n1_ n2_ n3_ n4_
                                          (try clear hb)
                                          (try clear hb2)
                                          (try clear hk)
                                          (try clear hi)
                                          refine hK.out _ _ ⟨(blk_cell BK357.out 0).trans rfl, (blk_cell BK357.out 1).trans rfl⟩ (fun hHeld => ?_)
                                          clear hK K
                                          refine norm_ (a' := ?_) ?_ ?_
                                          rotate_left
                                          · show Act.put _ (some 97) _ = _
                                            simp only [Act.put, List.setIfInBounds_toArray, List.set_cons_zero, List.set_cons_succ, i64_w, i32_w]
                                            rfl
                                          refine pure_ (i := 15) (N := some 98) (v := ?_) (a' := ?_) #[true, true, true, true, true, true, true, true, true, true, true, true, true, true, true, true, false, false, false, false, false, false, false, false, false, false, false, false, false, false, false, false] rfl rfl (any_of HT_.out (by kernel_rfl)) (fun _ _ _ h => h) (Or.inl ⟨by rfl, ?_⟩) ?_ ?_
                                          rotate_left
                                          · intro w'
                                            go_simp
                                            with_reducible rfl
                                          rotate_left
                                          · simp only [Act.put, List.setIfInBounds_toArray, List.set_cons_zero, List.set_cons_succ, i64_w, i32_w]
                                            rfl
                                          refine pure_ (i := 16) (N := some 99) (v := ?_) (a' := ?_) #[true, true, true, true, true, true, true, true, true, true, true, true, true, true, true, true, true, false, false, false, false, false, false, false, false, false, false, false, false, false, false, false] rfl rfl (any_of HT_.out (by kernel_rfl)) (fun _ _ _ h => h) (Or.inl ⟨by rfl, ?_⟩) ?_ ?_
                                          rotate_left
                                          · intro w'
                                            go_simp
                                            with_reducible rfl
                                          rotate_left
                                          · simp only [Act.put, List.setIfInBounds_toArray, List.set_cons_zero, List.set_cons_succ, i64_w, i32_w]
                                            rfl
                                          refine pure_ (i := 17) (N := some 100) (v := ?_) (a' := ?_) #[true, true, true, true, true, true, true, true, true, true, true, true, true, true, true, true, true, true, false, false, false, false, false, false, false, false, false, false, false, false, false, false] rfl rfl (any_of HT_.out (by kernel_rfl)) (fun _ _ _ h => h) (Or.inl ⟨by rfl, ?_⟩) ?_ ?_
                                          rotate_left
                                          · intro w'
                                            go_simp
                                            with_reducible rfl
                                          rotate_left
                                          · simp only [Act.put, List.setIfInBounds_toArray, List.set_cons_zero, List.set_cons_succ, i64_w, i32_w]
                                            rfl
                                          refine pure_ (i := 18) (N := some 101) (v := ?_) (a' := ?_) #[true, true, true, true, true, true, true, true, true, true, true, true, true, true, true, true, true, true, true, false, false, false, false, false, false, false, false, false, false, false, false, false] rfl rfl (any_of HT_.out (by kernel_rfl)) (fun _ _ _ h => h) (Or.inl ⟨by rfl, ?_⟩) ?_ ?_
                                          rotate_left
                                          · intro w'
                                            go_simp
                                            with_reducible rfl
                                          rotate_left
                                          · simp only [Act.put, List.setIfInBounds_toArray, List.set_cons_zero, List.set_cons_succ, i64_w, i32_w]
                                            rfl
                                          refine pure_ (i := 20) (N := some 103) (v := ?_) (a' := ?_) #[true, true, true, true, true, true, true, true, true, true, true, true, true, true, true, true, true, true, true, false, true, false, false, false, false, false, false, false, false, false, false, false] rfl rfl (any_of HT_.out (by kernel_rfl)) (fun _ _ _ h => h) (Or.inl ⟨by rfl, ?_⟩) ?_ ?_
                                          rotate_left
                                          · intro w'
                                            go_simp
                                            with_reducible rfl
                                          rotate_left
                                          · simp only [Act.put, List.setIfInBounds_toArray, List.set_cons_zero, List.set_cons_succ, i64_w, i32_w]
                                            rfl
                                          refine pure_ (i := 23) (N := some 106) (v := ?_) (a' := ?_) #[true, true, true, true, true, true, true, true, true, true, true, true, true, true, true, true, true, true, true, false, true, false, false, true, false, false, false, false, false, false, false, false] rfl rfl (any_of HT_.out (by kernel_rfl)) (fun _ _ _ h => h) (Or.inl ⟨by rfl, ?_⟩) ?_ ?_
                                          rotate_left
                                          · intro w'
                                            go_simp
                                            with_reducible rfl
                                          rotate_left
                                          · simp only [Act.put, List.setIfInBounds_toArray, List.set_cons_zero, List.set_cons_succ, i64_w, i32_w]
                                            rfl
                                          refine pure_ (i := 24) (N := some 107) (v := ?_) (a' := ?_) #[true, true, true, true, true, true, true, true, true, true, true, true, true, true, true, true, true, true, true, false, true, false, false, true, true, false, false, false, false, false, false, false] rfl rfl (any_of HT_.out (by kernel_rfl)) (fun _ _ _ h => h) (Or.inl ⟨by rfl, ?_⟩) ?_ ?_
                                          rotate_left
                                          · intro w'
                                            go_simp
                                            with_reducible rfl
                                          rotate_left
                                          · simp only [Act.put, List.setIfInBounds_toArray, List.set_cons_zero, List.set_cons_succ, i64_w, i32_w]
                                            rfl
                                          refine pure_ (i := 26) (N := some 109) (v := ?_) (a' := ?_) #[true, true, true, true, true, true, true, true, true, true, true, true, true, true, true, true, true, true, true, false, true, false, false, true, true, false, true, false, false, false, false, false] rfl rfl (any_of HT_.out (by kernel_rfl)) (fun _ _ _ h => h) (Or.inl ⟨by rfl, ?_⟩) ?_ ?_
                                          rotate_left
                                          · intro w'
                                            go_simp
                                            with_reducible rfl
                                          rotate_left
                                          · simp only [Act.put, List.setIfInBounds_toArray, List.set_cons_zero, List.set_cons_succ, i64_w, i32_w]
                                            rfl
                                          refine take_ (i := 19) (N := some 102) (v := ?_) (a' := ?_) #[true, true, true, true, true, true, true, true, true, true, true, true, true, true, true, true, true, true, true, true, true, false, false, true, true, false, true, false, false, false, false, false] rfl rfl (take_ofW HT_.out HW_.out (by kernel_rfl)) (fun _ _ _ h => h) (Or.inl ⟨by rfl, ?_⟩) hHeld ?_ ?_
                                          rotate_left
                                          · rintro w' ⟨s0, s1⟩
                                            go_simp
                                            with_reducible rfl
                                          rotate_left
                                          · simp only [Act.put, List.setIfInBounds_toArray, List.set_cons_zero, List.set_cons_succ, i64_w, i32_w]
                                            rfl
                                          refine pure_ (i := 21) (N := some 104) (v := ?_) (a' := ?_) #[true, true, true, true, true, true, true, true, true, true, true, true, true, true, true, true, true, true, true, true, true, true, false, true, true, false, true, false, false, false, false, false] rfl rfl (any_of HT_.out (by kernel_rfl)) (fun _ _ _ h => h) (Or.inl ⟨by rfl, ?_⟩) ?_ ?_
                                          rotate_left
                                          · intro w'
                                            go_simp
                                            with_reducible rfl
                                          rotate_left
                                          · simp only [Act.put, List.setIfInBounds_toArray, List.set_cons_zero, List.set_cons_succ, i64_w, i32_w]
                                            rfl
                                          refine take_ (i := 25) (N := some 108) (v := ?_) (a' := ?_) #[true, true, true, true, true, true, true, true, true, true, true, true, true, true, true, true, true, true, true, true, true, true, false, true, true, true, true, false, false, false, false, false] rfl rfl (take_ofW HT_.out HW_.out (by kernel_rfl)) (fun _ _ _ h => h) (Or.inl ⟨by rfl, ?_⟩) hHeld ?_ ?_
                                          rotate_left
                                          · rintro w' ⟨s0, s1⟩
                                            go_simp
                                            with_reducible rfl
                                          rotate_left
                                          · simp only [Act.put, List.setIfInBounds_toArray, List.set_cons_zero, List.set_cons_succ, i64_w, i32_w]
                                            rfl
                                          refine pure_ (i := 27) (N := some 110) (v := ?_) (a' := ?_) #[true, true, true, true, true, true, true, true, true, true, true, true, true, true, true, true, true, true, true, true, true, true, false, true, true, true, true, true, false, false, false, false] rfl rfl (any_of HT_.out (by kernel_rfl)) (fun _ _ _ h => h) (Or.inl ⟨by rfl, ?_⟩) ?_ ?_
                                          rotate_left
                                          · intro w'
                                            go_simp
                                            with_reducible rfl
                                          rotate_left
                                          · simp only [Act.put, List.setIfInBounds_toArray, List.set_cons_zero, List.set_cons_succ, i64_w, i32_w]
                                            rfl
                                          refine one_ (i := 22) (N := some 105) #[true, true, true, true, true, true, true, true, true, true, true, true, true, true, true, true, true, true, true, true, true, true, true, true, true, true, true, true, false, false, false, false] rfl rfl (one_of HT_.out (by kernel_rfl)) (by decide) (fun K hK => ?_)
                                          refine goes_ Try.func23 (by kernel_rfl) rfl #[.slice A0 l0.length c0, .int .i64 (wrap64 (((rd_T33 y353 x75_3).f1) + x13_4))] (by rfl) rfl rfl (by (try simp only [List.map_toArray, List.map_cons, List.map_nil]); first | done | rfl | (simp only [List.length_drop, List.length_take]; rfl)) ?_
                                          with_reducible refine (span_Has.calls _ _ l0 (wrap64 (((rd_T33 y353 x75_3).f1) + x13_4)) t361 _ ?side1 ?side2 A69.out).mono ?_
                                          (case side1 => repeat (first | exact (Kd.V_reads' HO_0.out).2.2 | (with_reducible refine Kd.C_alloc ?_ _) | (with_reducible refine Kd.C_drewN ?_ _) | (with_reducible refine Kd.C_drew ?_)))
                                          (case side2 => exact (Kd.V_reads' HO_0.out).2.1)
                                          rintro e w76 ⟨rfl, hb⟩
                                          refine ⟨_, rfl, ?_⟩
                                          have n0_ := Aside0.mk (Kd.V_below (by (with_reducible repeat (first | apply Kd.V_alloc | apply Kd.V_drewN | apply Kd.V_drew)); exact HO_0.out) hb)
                                          have n1_ := Aside0.mk (Kd.R_below (by (with_reducible repeat (first | apply Kd.R_alloc | apply Kd.R_drewN | apply Kd.R_drew)); exact HO_8.out) hb)
                                          have n2_ := Aside0.mk (Kd.R_below (by (with_reducible repeat (first | apply Kd.R_alloc | apply Kd.R_drewN | apply Kd.R_drew)); exact HO_73.out) hb)
                                          have n3_ := Aside0.mk (blk_below (g := gb357) (o := .cells #[.int .i64 ((rd_T33 y353 x75_3).f0), .int .i64 ((rd_T33 y353 x75_3).f1)] 33 (0, 0)) (by (with_reducible repeat (first | refine blk_drewN ?_ _ | refine blk_drew ?_ | refine blk_alloc ?_ _)); exact BK357.out) hb)
                                          have n4_ := Aside0.mk (below_step (by repeat (first | (with_reducible first | exact HB.out | apply below_alloc | apply pw_below_drewN | apply below_drew1 | refine below_set ?_ GE357.out) | exact HB.out)) hb)
                                          clear HO_0
                                          clear HO_8
                                          clear HO_73
                                          clear BK357
                                          clear HB
                                          have HO_0 := n0_
                                          have HO_8 := n1_
                                          have HO_73 := n2_
                                          have BK357 := n3_
                                          have HB := n4_
                                          clear n0_ n1_ n2_ n3_ n4_
                                          (try clear hb)
                                          (try clear hb2)
                                          (try clear hk)
                                          (try clear hi)
                                          refine hK.out _ _ ⟨(blk_cell BK357.out 0).trans rfl, (blk_cell BK357.out 1).trans rfl⟩ (fun hHeld => ?_)
                                          clear hK K
                                          refine norm_ (a' := ?_) ?_ ?_
                                          rotate_left
                                          · show Act.put _ (some 105) _ = _
                                            simp only [Act.put, List.setIfInBounds_toArray, List.set_cons_zero, List.set_cons_succ, i64_w, i32_w]
                                            rfl
                                          refine one_ (i := 28) (N := some 111) #[true, true, true, true, true, true, true, true, true, true, true, true, true, true, true, true, true, true, true, true, true, true, true, true, true, true, true, true, true, false, false, false] rfl rfl (one_of HT_.out (by kernel_rfl)) (by decide) (fun K hK => ?_)
                                          refine goes_ Try.func23 (by kernel_rfl) rfl #[.slice Ao33 t334.length co33, .int .i64 (wrap64 (((rd_T33 y353 x75_3).f1) + x13_4))] (by rfl) rfl rfl (by (try simp only [List.map_toArray, List.map_cons, List.map_nil]); first | done | rfl | (simp only [List.length_drop, List.length_take]; rfl)) ?_
                                          with_reducible refine (span_Has.calls _ _ t334 (wrap64 (((rd_T33 y353 x75_3).f1) + x13_4)) t362 _ ?side1 ?side2 A70.out).mono ?_
                                          (case side1 => repeat (first | exact (Kd.R_reads' HO_8.out).2.2 | (with_reducible refine Kd.C_alloc ?_ _) | (with_reducible refine Kd.C_drewN ?_ _) | (with_reducible refine Kd.C_drew ?_)))
                                          (case side2 => exact (Kd.R_reads' HO_8.out).2.1)
                                          rintro e w77 ⟨rfl, hb⟩
                                          refine ⟨_, rfl, ?_⟩
                                          have n0_ := Aside0.mk (Kd.V_below (by (with_reducible repeat (first | apply Kd.V_alloc | apply Kd.V_drewN | apply Kd.V_drew)); exact HO_0.out) hb)
                                          have n1_ := Aside0.mk (Kd.R_below (by (with_reducible repeat (first | apply Kd.R_alloc | apply Kd.R_drewN | apply Kd.R_drew)); exact HO_8.out) hb)
                                          have n2_ := Aside0.mk (Kd.R_below (by (with_reducible repeat (first | apply Kd.R_alloc | apply Kd.R_drewN | apply Kd.R_drew)); exact HO_73.out) hb)
                                          have n3_ := Aside0.mk (blk_below (g := gb357) (o := .cells #[.int .i64 ((rd_T33 y353 x75_3).f0), .int .i64 ((rd_T33 y353 x75_3).f1)] 33 (0, 0)) (by (with_reducible repeat (first | refine blk_drewN ?_ _ | refine blk_drew ?_ | refine blk_alloc ?_ _)); exact BK357.out) hb)
                                          have n4_ := Aside0.mk (below_step (by repeat (first | (with_reducible first | exact HB.out | apply below_alloc | apply pw_below_drewN | apply below_drew1 | refine below_set ?_ GE357.out) | exact HB.out)) hb)
                                          clear HO_0
                                          clear HO_8
                                          clear HO_73
                                          clear BK357
                                          clear HB
                                          have HO_0 := n0_
                                          have HO_8 := n1_
                                          have HO_73 := n2_
                                          have BK357 := n3_
                                          have HB := n4_
                                          clear n0_ n1_ n2_ n3_ n4_
                                          (try clear hb)
                                          (try clear hb2)
                                          (try clear hk)
                                          (try clear hi)
                                          refine hK.out _ _ ⟨(blk_cell BK357.out 0).trans rfl, (blk_cell BK357.out 1).trans rfl⟩ (fun hHeld => ?_)
                                          clear hK K
                                          refine norm_ (a' := ?_) ?_ ?_
                                          rotate_left
                                          · show Act.put _ (some 111) _ = _
                                            simp only [Act.put, List.setIfInBounds_toArray, List.set_cons_zero, List.set_cons_succ, i64_w, i32_w]
                                            rfl
                                          refine pure_ (i := 29) (N := some 112) (v := ?_) (a' := ?_) #[true, true, true, true, true, true, true, true, true, true, true, true, true, true, true, true, true, true, true, true, true, true, true, true, true, true, true, true, true, true, false, false] rfl rfl (any_of HT_.out (by kernel_rfl)) (fun _ _ _ h => h) (Or.inl ⟨by rfl, ?_⟩) ?_ ?_
                                          rotate_left
                                          · intro w'
                                            go_simp
                                            with_reducible rfl
                                          rotate_left
                                          · simp only [Act.put, List.setIfInBounds_toArray, List.set_cons_zero, List.set_cons_succ, i64_w, i32_w]
                                            rfl
                                          refine pure_ (i := 30) (N := some 113) (v := ?_) (a' := ?_) #[true, true, true, true, true, true, true, true, true, true, true, true, true, true, true, true, true, true, true, true, true, true, true, true, true, true, true, true, true, true, true, false] rfl rfl (any_of HT_.out (by kernel_rfl)) (fun _ _ _ h => h) (Or.inl ⟨by rfl, ?_⟩) ?_ ?_
                                          rotate_left
                                          · intro w'
                                            go_simp
                                            with_reducible rfl
                                          rotate_left
                                          · simp only [Act.put, List.setIfInBounds_toArray, List.set_cons_zero, List.set_cons_succ, i64_w, i32_w]
                                            rfl
                                          refine pure_ (i := 31) (N := some 114) (v := ?_) (a' := ?_) #[true, true, true, true, true, true, true, true, true, true, true, true, true, true, true, true, true, true, true, true, true, true, true, true, true, true, true, true, true, true, true, true] rfl rfl (any_of HT_.out (by kernel_rfl)) (fun _ _ _ h => h) (Or.inl ⟨by rfl, ?_⟩) ?_ ?_
                                          rotate_left
                                          · intro w'
                                            go_simp
                                            with_reducible rfl
                                          rotate_left
                                          · simp only [Act.put, List.setIfInBounds_toArray, List.set_cons_zero, List.set_cons_succ, i64_w, i32_w]
                                            rfl
                                          refine done_ (done_of HT_.out (by kernel_rfl)) ?_
                                          try go_wp2
                                          go_roundg k4
                                          case measure => have := HJ7.out; have := HK2.out; have := HK3.out; have := HK4.out; omega
                                          case rel => exact ⟨(wrap64 (x13_4 + 1)), (by first | rfl | (simp; done) | (simp [*]; done)), H', ⟨by have := HJ7.out; have := HK2.out; have := HK3.out; have := HK4.out; omega⟩, ⟨by (with_reducible repeat (first | apply Kd.V_alloc | apply Kd.V_drewN | apply Kd.V_drew)); exact HO_0.out⟩, ⟨by (with_reducible repeat (first | apply Kd.R_alloc | apply Kd.R_drewN | apply Kd.R_drew)); exact HO_8.out⟩, ⟨by (with_reducible repeat (first | apply Kd.R_alloc | apply Kd.R_drewN | apply Kd.R_drew)); exact HO_73.out⟩, ⟨by (with_reducible repeat (first | refine blk_drewN ?_ _ | refine blk_drew ?_ | refine blk_alloc ?_ _)); exact BK357.out⟩, ⟨by repeat (first | (with_reducible first | exact HB.out | apply below_alloc | apply pw_below_drewN | apply below_drew1 | refine below_set ?_ GE357.out) | exact HB.out)⟩⟩
                                    · replace c65 := Bool.eq_false_iff.mpr c65
                                      subst c65
                                      have H1 : (wageofficelaw04_SpanNormal.l2 k4 l0 a1 a2 t329 t334 (wrap64 (x13_4 + 1)) y353 (y353.length : Int) x75_3 ((rd_T33 y353 x75_3).f0) ((rd_T33 y353 x75_3).f1)) = some r := by rw [if_neg (show ¬ (false = true) by decide)] at H; exact H
                                      clear H
                                      have H := H1
                                      clear H1
                                      have H' := Aside0.mk H
                                      clear H
                                      try go_wp2
                                      have n0_ := Aside0.mk (Kd.V_drew HO_0.out)
                                      have n1_ := Aside0.mk (Kd.R_drew HO_8.out)
                                      have n2_ := Aside0.mk (Kd.R_drew HO_73.out)
                                      have n3_ := Aside0.mk (blk_drew BK357.out)
                                      have n4_ := Aside0.mk (below_drew1 HB.out)
                                      clear HO_0
                                      clear HO_8
                                      clear HO_73
                                      clear BK357
                                      clear HB
                                      have HO_0 := n0_
                                      have HO_8 := n1_
                                      have HO_73 := n2_
                                      have BK357 := n3_
                                      have HB := n4_
                                      clear n0_ n1_ n2_ n3_ n4_
                                      refine start_ (n := 32) (S := fun w' => w'.cell? ⟨gb357, 0, none⟩ = some (.int .i64 ((rd_T33 y353 x75_3).f0)) ∧ w'.cell? ⟨gb357, 1, none⟩ = some (.int .i64 ((rd_T33 y353 x75_3).f1))) (ds := []) #[false, false, false, false, false, false, false, false, false, false, false, false, false, false, false, false, false, false, false, false, false, false, false, false, false, false, false, false, false, false, false, false] (by kernel_rfl) rfl rfl ⟨(blk_cell BK357.out 0).trans rfl, (blk_cell BK357.out 1).trans rfl⟩ (fun hHeld => ?_); refine with_tabW wageofficelaw04_SpanNormal.tab19 wageofficelaw04_SpanNormal.bits19 (fun HT_ HW_ => ?_)
                                      generalize wr.drew = w78 at HO_0 HO_8 HO_73 BK357 HB hHeld ⊢
                                      refine take_ (i := 0) (N := some 83) (v := ?_) (a' := ?_) #[true, false, false, false, false, false, false, false, false, false, false, false, false, false, false, false, false, false, false, false, false, false, false, false, false, false, false, false, false, false, false, false] rfl rfl (take_ofW HT_.out HW_.out (by kernel_rfl)) (fun _ _ _ h => h) (Or.inl ⟨by rfl, ?_⟩) hHeld ?_ ?_
                                      rotate_left
                                      · rintro w' ⟨s0, s1⟩
                                        go_simp
                                        with_reducible rfl
                                      rotate_left
                                      · simp only [Act.put, List.setIfInBounds_toArray, List.set_cons_zero, List.set_cons_succ, i64_w, i32_w]
                                        rfl
                                      refine one_ (i := 1) (N := some 84) #[true, true, false, false, false, false, false, false, false, false, false, false, false, false, false, false, false, false, false, false, false, false, false, false, false, false, false, false, false, false, false, false] rfl rfl (one_of HT_.out (by kernel_rfl)) (by decide) (fun K hK => ?_)
                                      refine goes_ Try.func27 (by kernel_rfl) rfl #[.agg #[.int .i64 ((rd_T33 y353 x75_3).f0), .int .i64 ((rd_T33 y353 x75_3).f1)]] (by rfl) rfl rfl (by (try simp only [List.map_toArray, List.map_cons, List.map_nil]); first | done | rfl | (simp only [List.length_drop, List.length_take]; rfl)) ?_
                                      with_reducible refine (wageofficelaw04_far.calls ((rd_T33 y353 x75_3).f0) ((rd_T33 y353 x75_3).f1) false _ A64.out).mono ?_
                                      rintro e w79 ⟨rfl, hb⟩
                                      refine ⟨_, rfl, ?_⟩
                                      have n0_ := Aside0.mk (Kd.V_below (by (with_reducible repeat (first | apply Kd.V_alloc | apply Kd.V_drewN | apply Kd.V_drew)); exact HO_0.out) hb)
                                      have n1_ := Aside0.mk (Kd.R_below (by (with_reducible repeat (first | apply Kd.R_alloc | apply Kd.R_drewN | apply Kd.R_drew)); exact HO_8.out) hb)
                                      have n2_ := Aside0.mk (Kd.R_below (by (with_reducible repeat (first | apply Kd.R_alloc | apply Kd.R_drewN | apply Kd.R_drew)); exact HO_73.out) hb)
                                      have n3_ := Aside0.mk (blk_below (g := gb357) (o := .cells #[.int .i64 ((rd_T33 y353 x75_3).f0), .int .i64 ((rd_T33 y353 x75_3).f1)] 33 (0, 0)) (by (with_reducible repeat (first | refine blk_drewN ?_ _ | refine blk_drew ?_ | refine blk_alloc ?_ _)); exact BK357.out) hb)
                                      have n4_ := Aside0.mk (below_step (by repeat (first | (with_reducible first | exact HB.out | apply below_alloc | apply pw_below_drewN | apply below_drew1 | refine below_set ?_ GE357.out) | exact HB.out)) hb)
                                      clear HO_0
                                      clear HO_8
                                      clear HO_73
                                      clear BK357
                                      clear HB
                                      have HO_0 := n0_
                                      have HO_8 := n1_
                                      have HO_73 := n2_
                                      have BK357 := n3_
                                      have HB := n4_
                                      clear n0_ n1_ n2_ n3_ n4_
                                      (try clear hb)
                                      (try clear hb2)
                                      (try clear hk)
                                      (try clear hi)
                                      refine hK.out _ _ ⟨(blk_cell BK357.out 0).trans rfl, (blk_cell BK357.out 1).trans rfl⟩ (fun hHeld => ?_)
                                      clear hK K
                                      refine norm_ (a' := ?_) ?_ ?_
                                      rotate_left
                                      · show Act.put _ (some 84) _ = _
                                        simp only [Act.put, List.setIfInBounds_toArray, List.set_cons_zero, List.set_cons_succ, i64_w, i32_w]
                                        rfl
                                      refine pure_ (i := 2) (N := some 85) (v := ?_) (a' := ?_) #[true, true, true, false, false, false, false, false, false, false, false, false, false, false, false, false, false, false, false, false, false, false, false, false, false, false, false, false, false, false, false, false] rfl rfl (any_of HT_.out (by kernel_rfl)) (fun _ _ _ h => h) (Or.inl ⟨by rfl, ?_⟩) ?_ ?_
                                      rotate_left
                                      · intro w'
                                        go_simp
                                        with_reducible rfl
                                      rotate_left
                                      · simp only [Act.put, List.setIfInBounds_toArray, List.set_cons_zero, List.set_cons_succ, i64_w, i32_w]
                                        rfl
                                      refine pure_ (i := 3) (N := some 86) (v := undef) (a' := ?_) #[true, true, true, true, false, false, false, false, false, false, false, false, false, false, false, false, false, false, false, false, false, false, false, false, false, false, false, false, false, false, false, false] rfl rfl (any_of HT_.out (by kernel_rfl)) (fun _ _ _ h => h) (Or.inr ⟨by rfl, rfl⟩) ?_ ?_
                                      rotate_left
                                      · simp only [Act.put, List.setIfInBounds_toArray, List.set_cons_zero, List.set_cons_succ, i64_w, i32_w]
                                        rfl
                                      refine pure_ (i := 4) (N := some 87) (v := undef) (a' := ?_) #[true, true, true, true, true, false, false, false, false, false, false, false, false, false, false, false, false, false, false, false, false, false, false, false, false, false, false, false, false, false, false, false] rfl rfl (any_of HT_.out (by kernel_rfl)) (fun _ _ _ h => h) (Or.inr ⟨by rfl, rfl⟩) ?_ ?_
                                      rotate_left
                                      · simp only [Act.put, List.setIfInBounds_toArray, List.set_cons_zero, List.set_cons_succ, i64_w, i32_w]
                                        rfl
                                      refine pure_ (i := 5) (N := some 88) (v := undef) (a' := ?_) #[true, true, true, true, true, true, false, false, false, false, false, false, false, false, false, false, false, false, false, false, false, false, false, false, false, false, false, false, false, false, false, false] rfl rfl (any_of HT_.out (by kernel_rfl)) (fun _ _ _ h => h) (Or.inr ⟨by rfl, rfl⟩) ?_ ?_
                                      rotate_left
                                      · simp only [Act.put, List.setIfInBounds_toArray, List.set_cons_zero, List.set_cons_succ, i64_w, i32_w]
                                        rfl
                                      refine pure_ (i := 6) (N := some 89) (v := undef) (a' := ?_) #[true, true, true, true, true, true, true, false, false, false, false, false, false, false, false, false, false, false, false, false, false, false, false, false, false, false, false, false, false, false, false, false] rfl rfl (any_of HT_.out (by kernel_rfl)) (fun _ _ _ h => h) (Or.inr ⟨by rfl, rfl⟩) ?_ ?_
                                      rotate_left
                                      · simp only [Act.put, List.setIfInBounds_toArray, List.set_cons_zero, List.set_cons_succ, i64_w, i32_w]
                                        rfl
                                      refine pure_ (i := 7) (N := some 90) (v := undef) (a' := ?_) #[true, true, true, true, true, true, true, true, false, false, false, false, false, false, false, false, false, false, false, false, false, false, false, false, false, false, false, false, false, false, false, false] rfl rfl (any_of HT_.out (by kernel_rfl)) (fun _ _ _ h => h) (Or.inr ⟨by rfl, rfl⟩) ?_ ?_
                                      rotate_left
                                      · simp only [Act.put, List.setIfInBounds_toArray, List.set_cons_zero, List.set_cons_succ, i64_w, i32_w]
                                        rfl
                                      refine pure_ (i := 8) (N := some 91) (v := undef) (a' := ?_) #[true, true, true, true, true, true, true, true, true, false, false, false, false, false, false, false, false, false, false, false, false, false, false, false, false, false, false, false, false, false, false, false] rfl rfl (any_of HT_.out (by kernel_rfl)) (fun _ _ _ h => h) (Or.inr ⟨by rfl, rfl⟩) ?_ ?_
                                      rotate_left
                                      · simp only [Act.put, List.setIfInBounds_toArray, List.set_cons_zero, List.set_cons_succ, i64_w, i32_w]
                                        rfl
                                      refine pure_ (i := 9) (N := some 92) (v := undef) (a' := ?_) #[true, true, true, true, true, true, true, true, true, true, false, false, false, false, false, false, false, false, false, false, false, false, false, false, false, false, false, false, false, false, false, false] rfl rfl (any_of HT_.out (by kernel_rfl)) (fun _ _ _ h => h) (Or.inr ⟨by rfl, rfl⟩) ?_ ?_
                                      rotate_left
                                      · simp only [Act.put, List.setIfInBounds_toArray, List.set_cons_zero, List.set_cons_succ, i64_w, i32_w]
                                        rfl
                                      refine pure_ (i := 10) (N := some 93) (v := undef) (a' := ?_) #[true, true, true, true, true, true, true, true, true, true, true, false, false, false, false, false, false, false, false, false, false, false, false, false, false, false, false, false, false, false, false, false] rfl rfl (any_of HT_.out (by kernel_rfl)) (fun _ _ _ h => h) (Or.inr ⟨by rfl, rfl⟩) ?_ ?_
                                      rotate_left
                                      · simp only [Act.put, List.setIfInBounds_toArray, List.set_cons_zero, List.set_cons_succ, i64_w, i32_w]
                                        rfl
                                      refine pure_ (i := 11) (N := some 94) (v := undef) (a' := ?_) #[true, true, true, true, true, true, true, true, true, true, true, true, false, false, false, false, false, false, false, false, false, false, false, false, false, false, false, false, false, false, false, false] rfl rfl (any_of HT_.out (by kernel_rfl)) (fun _ _ _ h => h) (Or.inr ⟨by rfl, rfl⟩) ?_ ?_
                                      rotate_left
                                      · simp only [Act.put, List.setIfInBounds_toArray, List.set_cons_zero, List.set_cons_succ, i64_w, i32_w]
                                        rfl
                                      refine pure_ (i := 12) (N := some 95) (v := undef) (a' := ?_) #[true, true, true, true, true, true, true, true, true, true, true, true, true, false, false, false, false, false, false, false, false, false, false, false, false, false, false, false, false, false, false, false] rfl rfl (any_of HT_.out (by kernel_rfl)) (fun _ _ _ h => h) (Or.inr ⟨by rfl, rfl⟩) ?_ ?_
                                      rotate_left
                                      · simp only [Act.put, List.setIfInBounds_toArray, List.set_cons_zero, List.set_cons_succ, i64_w, i32_w]
                                        rfl
                                      refine pure_ (i := 13) (N := some 96) (v := undef) (a' := ?_) #[true, true, true, true, true, true, true, true, true, true, true, true, true, true, false, false, false, false, false, false, false, false, false, false, false, false, false, false, false, false, false, false] rfl rfl (any_of HT_.out (by kernel_rfl)) (fun _ _ _ h => h) (Or.inr ⟨by rfl, rfl⟩) ?_ ?_
                                      rotate_left
                                      · simp only [Act.put, List.setIfInBounds_toArray, List.set_cons_zero, List.set_cons_succ, i64_w, i32_w]
                                        rfl
                                      refine pure_ (i := 14) (N := some 97) (v := undef) (a' := ?_) #[true, true, true, true, true, true, true, true, true, true, true, true, true, true, true, false, false, false, false, false, false, false, false, false, false, false, false, false, false, false, false, false] rfl rfl (any_of HT_.out (by kernel_rfl)) (fun _ _ _ h => h) (Or.inr ⟨by rfl, rfl⟩) ?_ ?_
                                      rotate_left
                                      · simp only [Act.put, List.setIfInBounds_toArray, List.set_cons_zero, List.set_cons_succ, i64_w, i32_w]
                                        rfl
                                      refine pure_ (i := 15) (N := some 98) (v := undef) (a' := ?_) #[true, true, true, true, true, true, true, true, true, true, true, true, true, true, true, true, false, false, false, false, false, false, false, false, false, false, false, false, false, false, false, false] rfl rfl (any_of HT_.out (by kernel_rfl)) (fun _ _ _ h => h) (Or.inr ⟨by rfl, rfl⟩) ?_ ?_
                                      rotate_left
                                      · simp only [Act.put, List.setIfInBounds_toArray, List.set_cons_zero, List.set_cons_succ, i64_w, i32_w]
                                        rfl
                                      refine pure_ (i := 16) (N := some 99) (v := undef) (a' := ?_) #[true, true, true, true, true, true, true, true, true, true, true, true, true, true, true, true, true, false, false, false, false, false, false, false, false, false, false, false, false, false, false, false] rfl rfl (any_of HT_.out (by kernel_rfl)) (fun _ _ _ h => h) (Or.inr ⟨by rfl, rfl⟩) ?_ ?_
                                      rotate_left
                                      · simp only [Act.put, List.setIfInBounds_toArray, List.set_cons_zero, List.set_cons_succ, i64_w, i32_w]
                                        rfl
                                      refine pure_ (i := 17) (N := some 100) (v := undef) (a' := ?_) #[true, true, true, true, true, true, true, true, true, true, true, true, true, true, true, true, true, true, false, false, false, false, false, false, false, false, false, false, false, false, false, false] rfl rfl (any_of HT_.out (by kernel_rfl)) (fun _ _ _ h => h) (Or.inr ⟨by rfl, rfl⟩) ?_ ?_
                                      rotate_left
                                      · simp only [Act.put, List.setIfInBounds_toArray, List.set_cons_zero, List.set_cons_succ, i64_w, i32_w]
                                        rfl
                                      refine pure_ (i := 18) (N := some 101) (v := undef) (a' := ?_) #[true, true, true, true, true, true, true, true, true, true, true, true, true, true, true, true, true, true, true, false, false, false, false, false, false, false, false, false, false, false, false, false] rfl rfl (any_of HT_.out (by kernel_rfl)) (fun _ _ _ h => h) (Or.inr ⟨by rfl, rfl⟩) ?_ ?_
                                      rotate_left
                                      · simp only [Act.put, List.setIfInBounds_toArray, List.set_cons_zero, List.set_cons_succ, i64_w, i32_w]
                                        rfl
                                      refine pure_ (i := 19) (N := some 102) (v := undef) (a' := ?_) #[true, true, true, true, true, true, true, true, true, true, true, true, true, true, true, true, true, true, true, true, false, false, false, false, false, false, false, false, false, false, false, false] rfl rfl (any_of HT_.out (by kernel_rfl)) (fun _ _ _ h => h) (Or.inr ⟨by rfl, rfl⟩) ?_ ?_
                                      rotate_left
                                      · simp only [Act.put, List.setIfInBounds_toArray, List.set_cons_zero, List.set_cons_succ, i64_w, i32_w]
                                        rfl
                                      refine pure_ (i := 20) (N := some 103) (v := undef) (a' := ?_) #[true, true, true, true, true, true, true, true, true, true, true, true, true, true, true, true, true, true, true, true, true, false, false, false, false, false, false, false, false, false, false, false] rfl rfl (any_of HT_.out (by kernel_rfl)) (fun _ _ _ h => h) (Or.inr ⟨by rfl, rfl⟩) ?_ ?_
                                      rotate_left
                                      · simp only [Act.put, List.setIfInBounds_toArray, List.set_cons_zero, List.set_cons_succ, i64_w, i32_w]
                                        rfl
                                      refine pure_ (i := 21) (N := some 104) (v := undef) (a' := ?_) #[true, true, true, true, true, true, true, true, true, true, true, true, true, true, true, true, true, true, true, true, true, true, false, false, false, false, false, false, false, false, false, false] rfl rfl (any_of HT_.out (by kernel_rfl)) (fun _ _ _ h => h) (Or.inr ⟨by rfl, rfl⟩) ?_ ?_
                                      rotate_left
                                      · simp only [Act.put, List.setIfInBounds_toArray, List.set_cons_zero, List.set_cons_succ, i64_w, i32_w]
                                        rfl
                                      refine pure_ (i := 22) (N := some 105) (v := undef) (a' := ?_) #[true, true, true, true, true, true, true, true, true, true, true, true, true, true, true, true, true, true, true, true, true, true, true, false, false, false, false, false, false, false, false, false] rfl rfl (any_of HT_.out (by kernel_rfl)) (fun _ _ _ h => h) (Or.inr ⟨by rfl, rfl⟩) ?_ ?_
                                      rotate_left
                                      · simp only [Act.put, List.setIfInBounds_toArray, List.set_cons_zero, List.set_cons_succ, i64_w, i32_w]
                                        rfl
                                      refine pure_ (i := 23) (N := some 106) (v := undef) (a' := ?_) #[true, true, true, true, true, true, true, true, true, true, true, true, true, true, true, true, true, true, true, true, true, true, true, true, false, false, false, false, false, false, false, false] rfl rfl (any_of HT_.out (by kernel_rfl)) (fun _ _ _ h => h) (Or.inr ⟨by rfl, rfl⟩) ?_ ?_
                                      rotate_left
                                      · simp only [Act.put, List.setIfInBounds_toArray, List.set_cons_zero, List.set_cons_succ, i64_w, i32_w]
                                        rfl
                                      refine pure_ (i := 24) (N := some 107) (v := undef) (a' := ?_) #[true, true, true, true, true, true, true, true, true, true, true, true, true, true, true, true, true, true, true, true, true, true, true, true, true, false, false, false, false, false, false, false] rfl rfl (any_of HT_.out (by kernel_rfl)) (fun _ _ _ h => h) (Or.inr ⟨by rfl, rfl⟩) ?_ ?_
                                      rotate_left
                                      · simp only [Act.put, List.setIfInBounds_toArray, List.set_cons_zero, List.set_cons_succ, i64_w, i32_w]
                                        rfl
                                      refine pure_ (i := 25) (N := some 108) (v := undef) (a' := ?_) #[true, true, true, true, true, true, true, true, true, true, true, true, true, true, true, true, true, true, true, true, true, true, true, true, true, true, false, false, false, false, false, false] rfl rfl (any_of HT_.out (by kernel_rfl)) (fun _ _ _ h => h) (Or.inr ⟨by rfl, rfl⟩) ?_ ?_
                                      rotate_left
                                      · simp only [Act.put, List.setIfInBounds_toArray, List.set_cons_zero, List.set_cons_succ, i64_w, i32_w]
                                        rfl
                                      refine pure_ (i := 26) (N := some 109) (v := undef) (a' := ?_) #[true, true, true, true, true, true, true, true, true, true, true, true, true, true, true, true, true, true, true, true, true, true, true, true, true, true, true, false, false, false, false, false] rfl rfl (any_of HT_.out (by kernel_rfl)) (fun _ _ _ h => h) (Or.inr ⟨by rfl, rfl⟩) ?_ ?_
                                      rotate_left
                                      · simp only [Act.put, List.setIfInBounds_toArray, List.set_cons_zero, List.set_cons_succ, i64_w, i32_w]
                                        rfl
                                      refine pure_ (i := 27) (N := some 110) (v := undef) (a' := ?_) #[true, true, true, true, true, true, true, true, true, true, true, true, true, true, true, true, true, true, true, true, true, true, true, true, true, true, true, true, false, false, false, false] rfl rfl (any_of HT_.out (by kernel_rfl)) (fun _ _ _ h => h) (Or.inr ⟨by rfl, rfl⟩) ?_ ?_
                                      rotate_left
                                      · simp only [Act.put, List.setIfInBounds_toArray, List.set_cons_zero, List.set_cons_succ, i64_w, i32_w]
                                        rfl
                                      refine pure_ (i := 28) (N := some 111) (v := undef) (a' := ?_) #[true, true, true, true, true, true, true, true, true, true, true, true, true, true, true, true, true, true, true, true, true, true, true, true, true, true, true, true, true, false, false, false] rfl rfl (any_of HT_.out (by kernel_rfl)) (fun _ _ _ h => h) (Or.inr ⟨by rfl, rfl⟩) ?_ ?_
                                      rotate_left
                                      · simp only [Act.put, List.setIfInBounds_toArray, List.set_cons_zero, List.set_cons_succ, i64_w, i32_w]
                                        rfl
                                      refine pure_ (i := 29) (N := some 112) (v := undef) (a' := ?_) #[true, true, true, true, true, true, true, true, true, true, true, true, true, true, true, true, true, true, true, true, true, true, true, true, true, true, true, true, true, true, false, false] rfl rfl (any_of HT_.out (by kernel_rfl)) (fun _ _ _ h => h) (Or.inr ⟨by rfl, rfl⟩) ?_ ?_
                                      rotate_left
                                      · simp only [Act.put, List.setIfInBounds_toArray, List.set_cons_zero, List.set_cons_succ, i64_w, i32_w]
                                        rfl
                                      refine pure_ (i := 30) (N := some 113) (v := undef) (a' := ?_) #[true, true, true, true, true, true, true, true, true, true, true, true, true, true, true, true, true, true, true, true, true, true, true, true, true, true, true, true, true, true, true, false] rfl rfl (any_of HT_.out (by kernel_rfl)) (fun _ _ _ h => h) (Or.inr ⟨by rfl, rfl⟩) ?_ ?_
                                      rotate_left
                                      · simp only [Act.put, List.setIfInBounds_toArray, List.set_cons_zero, List.set_cons_succ, i64_w, i32_w]
                                        rfl
                                      refine pure_ (i := 31) (N := some 114) (v := ?_) (a' := ?_) #[true, true, true, true, true, true, true, true, true, true, true, true, true, true, true, true, true, true, true, true, true, true, true, true, true, true, true, true, true, true, true, true] rfl rfl (any_of HT_.out (by kernel_rfl)) (fun _ _ _ h => h) (Or.inl ⟨by rfl, ?_⟩) ?_ ?_
                                      rotate_left
                                      · intro w'
                                        go_simp
                                        with_reducible rfl
                                      rotate_left
                                      · simp only [Act.put, List.setIfInBounds_toArray, List.set_cons_zero, List.set_cons_succ, i64_w, i32_w]
                                        rfl
                                      refine done_ (done_of HT_.out (by kernel_rfl)) ?_
                                      try go_wp2
                                      go_roundg k4
                                      case measure => have := HJ7.out; have := HK2.out; have := HK3.out; have := HK4.out; omega
                                      case rel => exact ⟨(wrap64 (x13_4 + 1)), (by first | rfl | (simp; done) | (simp [*]; done)), H', ⟨by have := HJ7.out; have := HK2.out; have := HK3.out; have := HK4.out; omega⟩, ⟨by (with_reducible repeat (first | apply Kd.V_alloc | apply Kd.V_drewN | apply Kd.V_drew)); exact HO_0.out⟩, ⟨by (with_reducible repeat (first | apply Kd.R_alloc | apply Kd.R_drewN | apply Kd.R_drew)); exact HO_8.out⟩, ⟨by (with_reducible repeat (first | apply Kd.R_alloc | apply Kd.R_drewN | apply Kd.R_drew)); exact HO_73.out⟩, ⟨by (with_reducible repeat (first | refine blk_drewN ?_ _ | refine blk_drew ?_ | refine blk_alloc ?_ _)); exact BK357.out⟩, ⟨by repeat (first | (with_reducible first | exact HB.out | apply below_alloc | apply pw_below_drewN | apply below_drew1 | refine below_set ?_ GE357.out) | exact HB.out)⟩⟩
                                  · rw [if_neg c63] at H
                                    have c63b0 : decide (x13_4 ≤ 1) = false := decide_eq_false c63
                                    clear c63
                                    have H' := Aside0.mk H
                                    clear H
                                    go_wp2
                                    go_roundg k4
                                    case measure => have := HJ7.out; have := HK2.out; have := HK3.out; have := HK4.out; omega
                                    case rel => exact ⟨(wrap64 (x75_3 + 1)), (by first | rfl | (simp; done) | (simp [*]; done)), H', ⟨by have := HJ7.out; have := HK2.out; have := HK3.out; have := HK4.out; omega⟩, ⟨by (with_reducible repeat (first | apply Kd.V_alloc | apply Kd.V_drewN | apply Kd.V_drew)); exact Kd.V_mono HO_0.out (fun _ hk => ⟨hk.1, ⟨hk.2.1, hk.2.2.1⟩⟩)⟩, ⟨by (with_reducible repeat (first | apply Kd.R_alloc | apply Kd.R_drewN | apply Kd.R_drew)); exact Kd.R_mono HO_8.out (fun _ hk => ⟨hk.1, hk.2.1⟩)⟩, ⟨by (with_reducible repeat (first | apply Kd.R_alloc | apply Kd.R_drewN | apply Kd.R_drew)); exact Kd.R_mono HO_73.out (fun _ hk => ⟨hk.1, hk.2.1⟩)⟩, ⟨by repeat (first | (with_reducible first | exact HB.out | apply below_alloc | apply pw_below_drewN | apply below_drew1 | refine below_set ?_ GE357.out) | exact HB.out)⟩⟩
                            · rw [if_neg c60] at H
                              exact absurd H (by simp)
                          · rw [if_neg c59] at H
                            exact absurd H (by simp)
                        · rw [if_neg c58] at H
                          have c58b0 : decide (x75_3 < (y353.length : Int)) = false := decide_eq_false c58
                          clear c58
                          replace H := Option.bind_eq_some_iff.mp H
                          obtain ⟨t363, A800, H⟩ := H
                          replace H : (if (l0.length : Int) > 0 then (if (l0.length : Int) = 0 then (none) else (if 0 ≤ (Int.tmod (wrap64 (a2)) (l0.length : Int)) then (if (Int.tmod (wrap64 (a2)) (l0.length : Int)) < (l0.length : Int) then ((some (([(⟨(rd_T33 l0 (Int.tmod (wrap64 (a2)) (l0.length : Int))).f0, (rd_T33 l0 (Int.tmod (wrap64 (a2)) (l0.length : Int))).f1⟩ : S33), (⟨5, 5⟩ : S33), (⟨2305843009213693951, 3⟩ : S33)] : List (S33)) : List (S33))).bind fun y367 => (if t363.length + y367.length < 8796093022208 then (if t329 = true then ((span_Normal.f k3 (t363 ++ y367)).bind fun t373 => ((wageofficeref04_Same.f k3 t373 t334).bind fun t376 => (some t376))) else (none)) else (none))) else (none)) else (none))) else (if t329 = true then ((span_Normal.f k3 t363).bind fun t377 => ((wageofficeref04_Same.f k3 t377 t334).bind fun t380 => (some t380))) else (none))) = some r := H
                          have A80 := Aside0.mk A800
                          clear A800
                          by_cases c81 : (l0.length : Int) > 0
                          · rw [if_pos c81] at H
                            have c81b0 : decide (0 < (l0.length : Int)) = true := decide_eq_true c81
                            have c81b1 : decide (0 < l0.length) = true := decide_eq_true (by omega)
                            clear c81
                            by_cases c82 : (l0.length : Int) = 0
                            · rw [if_pos c82] at H
                              exact absurd H (by simp)
                            · rw [if_neg c82] at H
                              have c82b0 : ((l0.length : Int) == 0) = false := beq_eq_false_iff_ne.mpr c82
                              have c82b1 : ((l0.length : Int) != 0) = true := bne_iff_ne.mpr c82
                              have c82b2 : ¬ (l0 = []) := fun h_ => c82 (by rw [h_]; rfl)
                              obtain ⟨ji83, hji83⟩ : ∃ j_ : Int, (Int.tmod (wrap64 (a2)) (l0.length : Int)) = j_ := ⟨_, rfl⟩
                              replace H : (if 0 ≤ (ji83) then (if (ji83) < (l0.length : Int) then ((some (([(⟨(rd_T33 l0 (ji83)).f0, (rd_T33 l0 (ji83)).f1⟩ : S33), (⟨5, 5⟩ : S33), (⟨2305843009213693951, 3⟩ : S33)] : List (S33)) : List (S33))).bind fun y367 => (if t363.length + y367.length < 8796093022208 then (if t329 = true then ((span_Normal.f k3 (t363 ++ y367)).bind fun t373 => ((wageofficeref04_Same.f k3 t373 t334).bind fun t376 => (some t376))) else (none)) else (none))) else (none)) else (none)) = some r := by first | (rw [hji83] at H; exact H) | (simp only [hji83] at H ⊢; exact H)
                              (try rw [hji83] at A80)
                              by_cases c84 : 0 ≤ (ji83)
                              · rw [if_pos c84] at H
                                have c84b0 : decide (0 ≤ (ji83)) = true := decide_eq_true c84
                                clear c84
                                by_cases c85 : (ji83) < (l0.length : Int)
                                · rw [if_pos c85] at H
                                  have c85b0 : decide ((ji83) < (l0.length : Int)) = true := decide_eq_true c85
                                  clear c85
                                  obtain ⟨y367, hy367⟩ : ∃ y_ : List (S33), y_ = (([(⟨(rd_T33 l0 (ji83)).f0, (rd_T33 l0 (ji83)).f1⟩ : S33), (⟨5, 5⟩ : S33), (⟨2305843009213693951, 3⟩ : S33)] : List (S33))) := ⟨_, rfl⟩
                                  replace H : (if t363.length + y367.length < 8796093022208 then (if t329 = true then ((span_Normal.f k3 (t363 ++ y367)).bind fun t373 => ((wageofficeref04_Same.f k3 t373 t334).bind fun t376 => (some t376))) else (none)) else (none)) = some r := by first | (rw [hy367]; with_reducible exact H) | (have H2_ := (Option.bind_some _ _).symm.trans H; rw [hy367]; with_reducible exact H2_) | (have H2_ := (Option.bind_some _ _).symm.trans H; with_reducible exact H2_) | with_reducible exact H | (rw [hy367]; exact H) | exact H
                                  have Ny367 := Aside0.mk hy367
                                  clear hy367
                                  by_cases c86 : t363.length + y367.length < 8796093022208
                                  · rw [if_pos c86] at H
                                    have LMc86 := Aside0.mk c86
                                    clear c86
                                    obtain ⟨y370, hy370⟩ : ∃ y_ : List (S33), y_ = (t363 ++ y367) := ⟨_, rfl⟩
                                    replace H : (if t329 = true then ((span_Normal.f k3 y370).bind fun t373 => ((wageofficeref04_Same.f k3 t373 t334).bind fun t376 => (some t376))) else (none)) = some r := by first | (rw [hy370]; with_reducible exact H) | (have H2_ := (Option.bind_some _ _).symm.trans H; rw [hy370]; with_reducible exact H2_) | (have H2_ := (Option.bind_some _ _).symm.trans H; with_reducible exact H2_) | with_reducible exact H | (rw [hy370]; exact H) | exact H
                                    have Ny370 := Aside0.mk hy370
                                    clear hy370
                                    by_cases c87 : t329 = true
                                    · subst c87
                                      have H1 : ((span_Normal.f k3 y370).bind fun t373 => ((wageofficeref04_Same.f k3 t373 t334).bind fun t376 => (some t376))) = some r := by rw [if_pos rfl] at H; exact H
                                      clear H
                                      have H := H1
                                      clear H1
                                      replace H := Option.bind_eq_some_iff.mp H
                                      obtain ⟨t373, A880, H⟩ := H
                                      replace H : ((wageofficeref04_Same.f k3 t373 t334).bind fun t376 => (some t376)) = some r := H
                                      have A88 := Aside0.mk A880
                                      clear A880
                                      replace H := Option.bind_eq_some_iff.mp H
                                      obtain ⟨t376, A890, H⟩ := H
                                      replace H : (some t376) = some r := H
                                      have A89 := Aside0.mk A890
                                      clear A890
                                      obtain rfl := Option.some.inj H
                                      go_wp2_with (first | ((with_reducible refine gate_callee (f := 28) rfl ?_); refine goesL_ (some 118) rfl rfl Try.func28 (by kernel_rfl) rfl #[.slice A0 l0.length c0, .int .u8 a1] rfl (by (try simp only [List.map_toArray, List.map_cons, List.map_nil]); first | done | rfl | (simp only [List.length_drop, List.length_take]; rfl)) ?_; (with_reducible refine (wageofficelaw04_shuffled.calls k3 _ _ l0 a1 t363 _ ?side1 ?side2 A80.out).mono ?_); (case side1 => repeat (first | exact (Kd.V_reads' HO_0.out).2.2 | (with_reducible refine Kd.C_alloc ?_ _) | (with_reducible refine Kd.C_drewN ?_ _) | (with_reducible refine Kd.C_drew ?_))); (case side2 => exact (Kd.V_reads' HO_0.out).2.1); rintro e w90 ⟨v364, rfl, ho0, hb⟩; refine ⟨_, rfl, ?_⟩; have n0_ := Aside0.mk (Kd.V_elder' (by (with_reducible repeat (first | apply Kd.V_alloc | apply Kd.V_drewN | apply Kd.V_drew)); exact HO_0.out) (Kd.R_base ho0) hb); have n1_ := Aside0.mk (Kd.R_elder' (by (with_reducible repeat (first | apply Kd.R_alloc | apply Kd.R_drewN | apply Kd.R_drew)); exact HO_8.out) (Kd.R_base ho0) hb); have n2_ := Aside0.mk (Kd.R_elder' (by (with_reducible repeat (first | apply Kd.R_alloc | apply Kd.R_drewN | apply Kd.R_drew)); exact HO_73.out) (Kd.R_base ho0) hb); have n3_ := Aside0.mk (Kd.R_lower (Kd.R_new' (Kd.R_new' (Kd.R_newM (M := fun k_ => (w.heap.size ≤ k_)) ho0 (below_size (by repeat (first | (with_reducible first | exact HB.out | apply below_alloc | apply pw_below_drewN | apply below_drew1) | exact HB.out))) (fun k_ h_ => h_)) (Kd.R_lt (by (with_reducible repeat (first | apply Kd.R_alloc | apply Kd.R_drewN | apply Kd.R_drew)); exact HO_8.out))) (Kd.R_lt (by (with_reducible repeat (first | apply Kd.R_alloc | apply Kd.R_drewN | apply Kd.R_drew)); exact HO_73.out))) (below_size (by repeat (first | (with_reducible first | exact HB.out | apply below_alloc | apply pw_below_drewN | apply below_drew1) | exact HB.out)))); have n4_ := Aside0.mk (below_step (by repeat (first | (with_reducible first | exact HB.out | apply below_alloc | apply pw_below_drewN | apply below_drew1) | exact HB.out)) hb); clear HO_0; clear HO_8; clear HO_73; clear HB; have HO_0 := n0_; have HO_8 := n1_; have HO_73 := n2_; have HO365 := n3_; have HB := n4_; clear n0_ n1_ n2_ n3_ n4_; (try clear hb); (try clear hb2); (try clear hk); (try clear hi); (try clear ho0); have p366 : 0 ≤ ((ji83) : Int) := of_decide_eq_true (by first | (with_reducible assumption) | assumption); have q366 : (ji83) < (l0.length : Int) := of_decide_eq_true (by first | (with_reducible assumption) | assumption); obtain ⟨ad366, e366, hx366_0, hx366_1⟩ := at_T33 (Kd.V_reads' HO_0.out).2.2 (ji83) p366 q366; cases e366; replace p366 := eq_true p366; replace q366 := eq_true q366) | ((with_reducible refine gate_dst (N := 133) rfl ?_); refine Kd.R_lit k33 _ 33 ?hg (N := 133) ?hd (xs := ([(⟨(rd_T33 l0 (ji83)).f0, (rd_T33 l0 (ji83)).f1⟩ : S33), (⟨5, 5⟩ : S33), (⟨2305843009213693951, 3⟩ : S33)] : List (S33))) (inner := [.int .i64 ((rd_T33 l0 (ji83)).f0), .int .i64 ((rd_T33 l0 (ji83)).f1), .int .i64 5, .int .i64 5, .int .i64 2305843009213693951, .int .i64 3]) (ok := fun _ => True) (okp := fun _ => True) ?hr ?hp (fun _ hk => hk) trivial (Below.refl _ _) (Nat.le_refl _) (by simp) ?_; (case hd => rfl); (case hg => rfl); (case hr => first | (go_simp; done) | (go_simp; rfl)); (case hp => exact (Reps.c2 (show Kd.M k33 _ _ _ (⟨(rd_T33 l0 (ji83)).f0, (rd_T33 l0 (ji83)).f1⟩ : S33) [.int .i64 ((rd_T33 l0 (ji83)).f0), .int .i64 ((rd_T33 l0 (ji83)).f1)] from (k33_mkM _ _ _ (⟨(rd_T33 l0 (ji83)).f0, (rd_T33 l0 (ji83)).f1⟩ : S33) )) (Reps.c2 (show Kd.M k33 _ _ _ (⟨5, 5⟩ : S33) [.int .i64 5, .int .i64 5] from (k33_mkM _ _ _ (⟨5, 5⟩ : S33) )) (Reps.c2 (show Kd.M k33 _ _ _ (⟨2305843009213693951, 3⟩ : S33) [.int .i64 2305843009213693951, .int .i64 3] from (k33_mkM _ _ _ (⟨2305843009213693951, 3⟩ : S33) )) (Reps.none _ _))))); intro v368 w91 ho92 hb hg_ hnew_; clear hg_ hnew_; (first | rw [← Ny367.out] at ho92 | (simp only [Int.reduceToNat] at ho92; rw [← Ny367.out] at ho92)); have n0_ := Aside0.mk (Kd.V_elder' (by (with_reducible repeat (first | apply Kd.V_alloc | apply Kd.V_drewN | apply Kd.V_drew)); exact HO_0.out) (Kd.R_base ho92) hb); have n1_ := Aside0.mk (Kd.R_elder' (by (with_reducible repeat (first | apply Kd.R_alloc | apply Kd.R_drewN | apply Kd.R_drew)); exact HO_8.out) (Kd.R_base ho92) hb); have n2_ := Aside0.mk (Kd.R_elder' (by (with_reducible repeat (first | apply Kd.R_alloc | apply Kd.R_drewN | apply Kd.R_drew)); exact HO_73.out) (Kd.R_base ho92) hb); have n3_ := Aside0.mk (Kd.R_elder' (by (with_reducible repeat (first | apply Kd.R_alloc | apply Kd.R_drewN | apply Kd.R_drew)); exact HO365.out) (Kd.R_base ho92) hb); have n4_ := Aside0.mk (Kd.R_lower (Kd.R_new' (Kd.R_new' (Kd.R_new' (Kd.R_newM (M := fun k_ => (w.heap.size ≤ k_)) ho92 (below_size (by repeat (first | (with_reducible first | exact HB.out | apply below_alloc | apply pw_below_drewN | apply below_drew1) | exact HB.out))) (fun k_ h_ => h_)) (Kd.R_lt (by (with_reducible repeat (first | apply Kd.R_alloc | apply Kd.R_drewN | apply Kd.R_drew)); exact HO_8.out))) (Kd.R_lt (by (with_reducible repeat (first | apply Kd.R_alloc | apply Kd.R_drewN | apply Kd.R_drew)); exact HO_73.out))) (Kd.R_lt (by (with_reducible repeat (first | apply Kd.R_alloc | apply Kd.R_drewN | apply Kd.R_drew)); exact HO365.out))) (below_size (by repeat (first | (with_reducible first | exact HB.out | apply below_alloc | apply pw_below_drewN | apply below_drew1) | exact HB.out)))); have n5_ := Aside0.mk (below_step (by repeat (first | (with_reducible first | exact HB.out | apply below_alloc | apply pw_below_drewN | apply below_drew1) | exact HB.out)) hb); clear HO_0; clear HO_8; clear HO_73; clear HO365; clear HB; have HO_0 := n0_; have HO_8 := n1_; have HO_73 := n2_; have HO365 := n3_; have HO369 := n4_; have HB := n5_; clear n0_ n1_ n2_ n3_ n4_ n5_; clear hb ho92; obtain ⟨Ao94, co94, eo94⟩ := Kd.R_slice HO369.out; subst eo94) | ((with_reducible refine gate_builtin (b := .append) (xs := #[.tmp 122, .tmp 133]) rfl ?_); at_builtin; refine Kd.R_append_rows k33 (w0 := w) w.heap.size rfl (.tmp 122) (.tmp 133) 22 33 (.agg #[(.int .i64 0), (.int .i64 0)]) 16 rfl Try.underlying22 info33 rfl (by decide) (by omega) v364 t363 y367 _ _ _ (fun k_ => (w.heap.size ≤ k_) ∧ some k_ ≠ (.slice Ao33 t334.length co33 : Value).ownBlock ∧ some k_ ≠ (.slice Ao57 y353.length co57 : Value).ownBlock ∧ some k_ ≠ (.slice Ao94 y367.length co94 : Value).ownBlock) (fun _ => False) rfl rfl ?aO ?aR (fun _ _ h => h) (fun _ h => h.elim) ?aF ?aB ?aS ?aL ?_; (case aR => repeat (first | exact (Kd.R_reads' HO369.out).2.2 | (with_reducible refine Kd.C_alloc ?_ _) | (with_reducible refine Kd.C_drewN ?_ _) | (with_reducible refine Kd.C_drew ?_))); (case aB => exact (by repeat (first | (with_reducible first | exact HB.out | apply below_alloc | apply pw_below_drewN | apply below_drew1) | exact HB.out))); (case aF => exact (fun k_ hk => ⟨(Nat.le_trans (below_size (by repeat (first | (with_reducible first | exact HB.out | apply below_alloc | apply pw_below_drewN | apply below_drew1) | exact HB.out))) hk), Kd.fresh' (Kd.R_lt (by (with_reducible repeat (first | apply Kd.R_alloc | apply Kd.R_drewN | apply Kd.R_drew)); exact HO_8.out)) k_ hk, Kd.fresh' (Kd.R_lt (by (with_reducible repeat (first | apply Kd.R_alloc | apply Kd.R_drewN | apply Kd.R_drew)); exact HO_73.out)) k_ hk, Kd.fresh' (Kd.R_lt (by (with_reducible repeat (first | apply Kd.R_alloc | apply Kd.R_drewN | apply Kd.R_drew)); exact HO369.out)) k_ hk⟩)); (case aO => exact (by (with_reducible repeat (first | apply Kd.R_alloc | apply Kd.R_drewN | apply Kd.R_drew)); exact Kd.R_mono HO365.out (fun _ hk => ⟨hk.1.1.1.1, ⟨hk.1.1.2, ⟨hk.1.2, hk.2⟩⟩⟩))); (case aS => exact (below_size (by repeat (first | (with_reducible first | exact HB.out | apply below_alloc | apply pw_below_drewN | apply below_drew1) | exact HB.out)))); (case aL => have := LMc86.out; omega); intro v371 w93 ho hb hg hat; rw [← Ny370.out] at ho; have n0_ := Aside0.mk (Kd.V_afterv (ok := (fun k_ => (P0_ k_ ∨ w.heap.size ≤ k_) ∧ some k_ ≠ (.slice Ao33 t334.length co33 : Value).ownBlock ∧ some k_ ≠ (.slice Ao57 y353.length co57 : Value).ownBlock ∧ some k_ ≠ (.slice Ao94 y367.length co94 : Value).ownBlock)) (by (with_reducible repeat (first | apply Kd.V_alloc | apply Kd.V_drewN | apply Kd.V_drew)); exact Kd.V_mono HO_0.out (fun _ hk => ⟨⟨hk.1.1.1, ⟨hk.1.1.2.1, ⟨hk.1.1.2.2, hk.2⟩⟩⟩, hk.1.2⟩)) hg hat); have n1_ := Aside0.mk (Kd.R_after (ok := (fun k_ => (w.heap.size ≤ k_) ∧ some k_ ≠ (.slice Ao57 y353.length co57 : Value).ownBlock ∧ some k_ ≠ (.slice Ao94 y367.length co94 : Value).ownBlock)) (by (with_reducible repeat (first | apply Kd.R_alloc | apply Kd.R_drewN | apply Kd.R_drew)); exact Kd.R_mono HO_8.out (fun _ hk => ⟨⟨hk.1.1.1, ⟨hk.1.1.2, hk.2⟩⟩, hk.1.2⟩)) hg hat); have n2_ := Aside0.mk (Kd.R_after (ok := (fun k_ => (w.heap.size ≤ k_) ∧ some k_ ≠ (.slice Ao33 t334.length co33 : Value).ownBlock ∧ some k_ ≠ (.slice Ao94 y367.length co94 : Value).ownBlock)) (by (with_reducible repeat (first | apply Kd.R_alloc | apply Kd.R_drewN | apply Kd.R_drew)); exact Kd.R_mono HO_73.out (fun _ hk => ⟨⟨hk.1.1.1, ⟨hk.1.1.2, hk.2⟩⟩, hk.1.2⟩)) hg hat); have n3_ := Aside0.mk (Kd.R_after (ok := (fun k_ => (w.heap.size ≤ k_) ∧ some k_ ≠ (.slice Ao33 t334.length co33 : Value).ownBlock ∧ some k_ ≠ (.slice Ao57 y353.length co57 : Value).ownBlock)) (by (with_reducible repeat (first | apply Kd.R_alloc | apply Kd.R_drewN | apply Kd.R_drew)); exact Kd.R_mono HO369.out (fun _ hk => ⟨⟨hk.1.1.1.1, ⟨hk.1.1.2, hk.1.2⟩⟩, hk.2⟩)) hg hat); have n4_ := Aside0.mk (hb); have n5_ := Aside0.mk (ho); clear HO_0; clear HO_8; clear HO_73; clear HO369; clear HB; clear HO365; have HO_0 := n0_; have HO_8 := n1_; have HO_73 := n2_; have HO369 := n3_; have HB := n4_; have HO372 := n5_; clear n0_ n1_ n2_ n3_ n4_ n5_; clear ho hb hg hat; obtain ⟨Ao95, co95, eo95⟩ := Kd.R_slice HO372.out; subst eo95) | (go_at_call 15; (with_reducible refine (span_Normal.calls k3 _ _ y370 t373 _ ?side1 ?side2 A88.out).mono ?_); (case side1 => repeat (first | exact (Kd.R_reads' HO372.out).2.2 | (with_reducible refine Kd.C_alloc ?_ _) | (with_reducible refine Kd.C_drewN ?_ _) | (with_reducible refine Kd.C_drew ?_))); (case side2 => exact (Kd.R_reads' HO372.out).2.1); rintro e w96 ⟨v374, rfl, ho0, hb⟩; have n0_ := Aside0.mk (Kd.V_elder' (by (with_reducible repeat (first | apply Kd.V_alloc | apply Kd.V_drewN | apply Kd.V_drew)); exact HO_0.out) (Kd.R_base ho0) hb); have n1_ := Aside0.mk (Kd.R_elder' (by (with_reducible repeat (first | apply Kd.R_alloc | apply Kd.R_drewN | apply Kd.R_drew)); exact HO_8.out) (Kd.R_base ho0) hb); have n2_ := Aside0.mk (Kd.R_elder' (by (with_reducible repeat (first | apply Kd.R_alloc | apply Kd.R_drewN | apply Kd.R_drew)); exact HO_73.out) (Kd.R_base ho0) hb); have n3_ := Aside0.mk (Kd.R_elder' (by (with_reducible repeat (first | apply Kd.R_alloc | apply Kd.R_drewN | apply Kd.R_drew)); exact HO369.out) (Kd.R_base ho0) hb); have n4_ := Aside0.mk (Kd.R_elder' (by (with_reducible repeat (first | apply Kd.R_alloc | apply Kd.R_drewN | apply Kd.R_drew)); exact HO372.out) (Kd.R_base ho0) hb); have n5_ := Aside0.mk (Kd.R_lower (Kd.R_new' (Kd.R_new' (Kd.R_new' (Kd.R_new' (Kd.R_newM (M := fun k_ => (w.heap.size ≤ k_)) ho0 (below_size (by repeat (first | (with_reducible first | exact HB.out | apply below_alloc | apply pw_below_drewN | apply below_drew1) | exact HB.out))) (fun k_ h_ => h_)) (Kd.R_lt (by (with_reducible repeat (first | apply Kd.R_alloc | apply Kd.R_drewN | apply Kd.R_drew)); exact HO_8.out))) (Kd.R_lt (by (with_reducible repeat (first | apply Kd.R_alloc | apply Kd.R_drewN | apply Kd.R_drew)); exact HO_73.out))) (Kd.R_lt (by (with_reducible repeat (first | apply Kd.R_alloc | apply Kd.R_drewN | apply Kd.R_drew)); exact HO369.out))) (Kd.R_lt (by (with_reducible repeat (first | apply Kd.R_alloc | apply Kd.R_drewN | apply Kd.R_drew)); exact HO372.out))) (below_size (by repeat (first | (with_reducible first | exact HB.out | apply below_alloc | apply pw_below_drewN | apply below_drew1) | exact HB.out)))); have n6_ := Aside0.mk (below_step (by repeat (first | (with_reducible first | exact HB.out | apply below_alloc | apply pw_below_drewN | apply below_drew1) | exact HB.out)) hb); clear HO_0; clear HO_8; clear HO_73; clear HO369; clear HO372; clear HB; have HO_0 := n0_; have HO_8 := n1_; have HO_73 := n2_; have HO369 := n3_; have HO372 := n4_; have HO375 := n5_; have HB := n6_; clear n0_ n1_ n2_ n3_ n4_ n5_ n6_; (try clear hb); (try clear hb2); (try clear hk); (try clear hi); (try clear ho0); obtain ⟨Ao97, co97, eo97⟩ := Kd.R_slice HO375.out; subst eo97) | (go_at_call 14; (with_reducible refine (wageofficeref04_Same.calls k3 _ _ t373 _ _ t334 t376 _ ?side1 ?side2 ?side3 ?side4 A89.out).mono ?_); (case side1 => repeat (first | exact (Kd.R_reads' HO375.out).2.2 | (with_reducible refine Kd.C_alloc ?_ _) | (with_reducible refine Kd.C_drewN ?_ _) | (with_reducible refine Kd.C_drew ?_))); (case side2 => exact (Kd.R_reads' HO375.out).2.1); (case side3 => repeat (first | exact (Kd.R_reads' HO_8.out).2.2 | (with_reducible refine Kd.C_alloc ?_ _) | (with_reducible refine Kd.C_drewN ?_ _) | (with_reducible refine Kd.C_drew ?_))); (case side4 => exact (Kd.R_reads' HO_8.out).2.1); rintro e w' ⟨rfl, ⟨nd, rfl⟩⟩))
                                      go_ret
                                      exact ⟨by first | rfl | (simp [errW_none, errW_some] <;> rfl) | (simp only [← hji83]; first | rfl | (simp [errW_none, errW_some] <;> rfl)) | (simp [*, errW_none, errW_some] <;> rfl), by repeat (first | (with_reducible first | exact HB.out | apply below_alloc | apply pw_below_drewN | apply below_drew1) | exact HB.out)⟩
                                    · replace c87 := Bool.eq_false_iff.mpr c87
                                      subst c87
                                      have H1 : (none) = some r := by rw [if_neg (show ¬ (false = true) by decide)] at H; exact H
                                      clear H
                                      have H := H1
                                      clear H1
                                      exact absurd H (by simp)
                                  · rw [if_neg c86] at H
                                    exact absurd H (by simp)
                                · rw [if_neg c85] at H
                                  exact absurd H (by simp)
                              · rw [if_neg c84] at H
                                exact absurd H (by simp)
                          · rw [if_neg c81] at H
                            have c81b0 : decide (0 < (l0.length : Int)) = false := decide_eq_false c81
                            have c81b1 : decide (0 < l0.length) = false := decide_eq_false (by omega)
                            clear c81
                            by_cases c98 : t329 = true
                            · subst c98
                              have H1 : ((span_Normal.f k3 t363).bind fun t377 => ((wageofficeref04_Same.f k3 t377 t334).bind fun t380 => (some t380))) = some r := by rw [if_pos rfl] at H; exact H
                              clear H
                              have H := H1
                              clear H1
                              replace H := Option.bind_eq_some_iff.mp H
                              obtain ⟨t377, A990, H⟩ := H
                              replace H : ((wageofficeref04_Same.f k3 t377 t334).bind fun t380 => (some t380)) = some r := H
                              have A99 := Aside0.mk A990
                              clear A990
                              replace H := Option.bind_eq_some_iff.mp H
                              obtain ⟨t380, A1000, H⟩ := H
                              replace H : (some t380) = some r := H
                              have A100 := Aside0.mk A1000
                              clear A1000
                              obtain rfl := Option.some.inj H
                              go_wp2_with (first | ((with_reducible refine gate_callee (f := 28) rfl ?_); refine goesL_ (some 118) rfl rfl Try.func28 (by kernel_rfl) rfl #[.slice A0 l0.length c0, .int .u8 a1] rfl (by (try simp only [List.map_toArray, List.map_cons, List.map_nil]); first | done | rfl | (simp only [List.length_drop, List.length_take]; rfl)) ?_; (with_reducible refine (wageofficelaw04_shuffled.calls k3 _ _ l0 a1 t363 _ ?side1 ?side2 A80.out).mono ?_); (case side1 => repeat (first | exact (Kd.V_reads' HO_0.out).2.2 | (with_reducible refine Kd.C_alloc ?_ _) | (with_reducible refine Kd.C_drewN ?_ _) | (with_reducible refine Kd.C_drew ?_))); (case side2 => exact (Kd.V_reads' HO_0.out).2.1); rintro e w101 ⟨v364, rfl, ho0, hb⟩; refine ⟨_, rfl, ?_⟩; have n0_ := Aside0.mk (Kd.V_elder' (by (with_reducible repeat (first | apply Kd.V_alloc | apply Kd.V_drewN | apply Kd.V_drew)); exact HO_0.out) (Kd.R_base ho0) hb); have n1_ := Aside0.mk (Kd.R_elder' (by (with_reducible repeat (first | apply Kd.R_alloc | apply Kd.R_drewN | apply Kd.R_drew)); exact HO_8.out) (Kd.R_base ho0) hb); have n2_ := Aside0.mk (Kd.R_elder' (by (with_reducible repeat (first | apply Kd.R_alloc | apply Kd.R_drewN | apply Kd.R_drew)); exact HO_73.out) (Kd.R_base ho0) hb); have n3_ := Aside0.mk (Kd.R_lower (Kd.R_new' (Kd.R_new' (Kd.R_newM (M := fun k_ => (w.heap.size ≤ k_)) ho0 (below_size (by repeat (first | (with_reducible first | exact HB.out | apply below_alloc | apply pw_below_drewN | apply below_drew1) | exact HB.out))) (fun k_ h_ => h_)) (Kd.R_lt (by (with_reducible repeat (first | apply Kd.R_alloc | apply Kd.R_drewN | apply Kd.R_drew)); exact HO_8.out))) (Kd.R_lt (by (with_reducible repeat (first | apply Kd.R_alloc | apply Kd.R_drewN | apply Kd.R_drew)); exact HO_73.out))) (below_size (by repeat (first | (with_reducible first | exact HB.out | apply below_alloc | apply pw_below_drewN | apply below_drew1) | exact HB.out)))); have n4_ := Aside0.mk (below_step (by repeat (first | (with_reducible first | exact HB.out | apply below_alloc | apply pw_below_drewN | apply below_drew1) | exact HB.out)) hb); clear HO_0; clear HO_8; clear HO_73; clear HB; have HO_0 := n0_; have HO_8 := n1_; have HO_73 := n2_; have HO365 := n3_; have HB := n4_; clear n0_ n1_ n2_ n3_ n4_; (try clear hb); (try clear hb2); (try clear hk); (try clear hi); (try clear ho0); obtain ⟨Ao102, co102, eo102⟩ := Kd.R_slice HO365.out; subst eo102) | (go_at_call 15; (with_reducible refine (span_Normal.calls k3 _ _ t363 t377 _ ?side1 ?side2 A99.out).mono ?_); (case side1 => repeat (first | exact (Kd.R_reads' HO365.out).2.2 | (with_reducible refine Kd.C_alloc ?_ _) | (with_reducible refine Kd.C_drewN ?_ _) | (with_reducible refine Kd.C_drew ?_))); (case side2 => exact (Kd.R_reads' HO365.out).2.1); rintro e w103 ⟨v378, rfl, ho0, hb⟩; have n0_ := Aside0.mk (Kd.V_elder' (by (with_reducible repeat (first | apply Kd.V_alloc | apply Kd.V_drewN | apply Kd.V_drew)); exact HO_0.out) (Kd.R_base ho0) hb); have n1_ := Aside0.mk (Kd.R_elder' (by (with_reducible repeat (first | apply Kd.R_alloc | apply Kd.R_drewN | apply Kd.R_drew)); exact HO_8.out) (Kd.R_base ho0) hb); have n2_ := Aside0.mk (Kd.R_elder' (by (with_reducible repeat (first | apply Kd.R_alloc | apply Kd.R_drewN | apply Kd.R_drew)); exact HO_73.out) (Kd.R_base ho0) hb); have n3_ := Aside0.mk (Kd.R_elder' (by (with_reducible repeat (first | apply Kd.R_alloc | apply Kd.R_drewN | apply Kd.R_drew)); exact HO365.out) (Kd.R_base ho0) hb); have n4_ := Aside0.mk (Kd.R_lower (Kd.R_new' (Kd.R_new' (Kd.R_new' (Kd.R_newM (M := fun k_ => (w.heap.size ≤ k_)) ho0 (below_size (by repeat (first | (with_reducible first | exact HB.out | apply below_alloc | apply pw_below_drewN | apply below_drew1) | exact HB.out))) (fun k_ h_ => h_)) (Kd.R_lt (by (with_reducible repeat (first | apply Kd.R_alloc | apply Kd.R_drewN | apply Kd.R_drew)); exact HO_8.out))) (Kd.R_lt (by (with_reducible repeat (first | apply Kd.R_alloc | apply Kd.R_drewN | apply Kd.R_drew)); exact HO_73.out))) (Kd.R_lt (by (with_reducible repeat (first | apply Kd.R_alloc | apply Kd.R_drewN | apply Kd.R_drew)); exact HO365.out))) (below_size (by repeat (first | (with_reducible first | exact HB.out | apply below_alloc | apply pw_below_drewN | apply below_drew1) | exact HB.out)))); have n5_ := Aside0.mk (below_step (by repeat (first | (with_reducible first | exact HB.out | apply below_alloc | apply pw_below_drewN | apply below_drew1) | exact HB.out)) hb); clear HO_0; clear HO_8; clear HO_73; clear HO365; clear HB; have HO_0 := n0_; have HO_8 := n1_; have HO_73 := n2_; have HO365 := n3_; have HO379 := n4_; have HB := n5_; clear n0_ n1_ n2_ n3_ n4_ n5_; (try clear hb); (try clear hb2); (try clear hk); (try clear hi); (try clear ho0); obtain ⟨Ao104, co104, eo104⟩ := Kd.R_slice HO379.out; subst eo104) | (go_at_call 14; (with_reducible refine (wageofficeref04_Same.calls k3 _ _ t377 _ _ t334 t380 _ ?side1 ?side2 ?side3 ?side4 A100.out).mono ?_); (case side1 => repeat (first | exact (Kd.R_reads' HO379.out).2.2 | (with_reducible refine Kd.C_alloc ?_ _) | (with_reducible refine Kd.C_drewN ?_ _) | (with_reducible refine Kd.C_drew ?_))); (case side2 => exact (Kd.R_reads' HO379.out).2.1); (case side3 => repeat (first | exact (Kd.R_reads' HO_8.out).2.2 | (with_reducible refine Kd.C_alloc ?_ _) | (with_reducible refine Kd.C_drewN ?_ _) | (with_reducible refine Kd.C_drew ?_))); (case side4 => exact (Kd.R_reads' HO_8.out).2.1); rintro e w' ⟨rfl, ⟨nd, rfl⟩⟩))
                              go_ret
                              exact ⟨by first | rfl | (simp [errW_none, errW_some] <;> rfl) | (simp [*, errW_none, errW_some] <;> rfl), by repeat (first | (with_reducible first | exact HB.out | apply below_alloc | apply pw_below_drewN | apply below_drew1) | exact HB.out)⟩
                            · replace c98 := Bool.eq_false_iff.mpr c98
                              subst c98
                              have H1 : (none) = some r := by rw [if_neg (show ¬ (false = true) by decide)] at H; exact H
                              clear H
                              have H := H1
                              clear H1
                              exact absurd H (by simp)
                  · rw [if_neg c52] at H
                    exact absurd H (by simp)
                · rw [if_neg c51] at H
                  exact absurd H (by simp)
  · replace c6 := Bool.eq_false_iff.mpr c6
    subst c6
    have H1 : (some t329) = some r := by rw [if_neg (show ¬ (false = true) by decide)] at H; exact H
    clear H
    have H := H1
    clear H1
    obtain rfl := Option.some.inj H
    go_enter Try.func4, Try.ntmps4
    go_wp2_with (first | ((with_reducible refine gate_callee (f := 10) rfl ?_); refine goesL_ (some 15) rfl rfl Try.func10 (by kernel_rfl) rfl #[] rfl (by (try simp only [List.map_toArray, List.map_cons, List.map_nil]); first | done | rfl | (simp only [List.length_drop, List.length_take]; rfl)) ?_; (with_reducible refine (wageofficelaw04_head.calls k  t329 _ A4.out).mono ?_); rintro e w105 ⟨rfl, hb⟩; refine ⟨_, rfl, ?_⟩; have n0_ := Aside0.mk (Kd.V_below (by (with_reducible repeat (first | apply Kd.V_alloc | apply Kd.V_drewN | apply Kd.V_drew)); exact HO0.out) hb); have n1_ := Aside0.mk (below_step (by repeat (first | (with_reducible first | exact HB.out | apply below_alloc | apply pw_below_drewN | apply below_drew1) | exact HB.out)) hb); clear HO0; clear HB; have HO0 := n0_; have HB := n1_; clear n0_ n1_; (try clear hb); (try clear hb2); (try clear hk); (try clear hi)) | ((with_reducible refine gate_dst (N := 17) rfl ?_); refine Kd.N_lit (Kd.slice 33 k33) _ 22 ?hg (N' := 17) ?hd (xs := ([l0] : List (List (S33)))) (inner := [.slice A0 l0.length c0]) (ok := (fun k_ => (P0_ k_ ∨ w.heap.size ≤ k_))) (okp := (fun k_ => (P0_ k_ ∨ w.heap.size ≤ k_))) ?hr ?hp (fun _ hk => hk) ((show ∀ k_, w105.heap.size ≤ k_ → (fun k_ => (P0_ k_ ∨ w.heap.size ≤ k_)) k_ from fun k_ hk => (.inr (Nat.le_trans (below_size (by repeat (first | (with_reducible first | exact HB.out | apply below_alloc | apply pw_below_drewN | apply below_drew1) | exact HB.out))) hk))) _ (Nat.le_refl _)) (Below.refl _ _) (Nat.le_refl _) (by simp) ?_; (case hd => rfl); (case hg => rfl); (case hr => first | (go_simp; done) | (go_simp; rfl)); (case hp => exact (Reps.one (show Kd.FK (Kd.slice 33 k33) _ _ l0 [.slice A0 l0.length c0] from (Kd.FK_slice_mk (Kd.V_reads' (Kd.V_mono (ok' := (fun k_ => (P0_ k_ ∨ w.heap.size ≤ k_))) (HO0.out) (fun k_ hk => hk))).2.1 (Kd.V_F (Kd.V_mono (ok' := (fun k_ => (P0_ k_ ∨ w.heap.size ≤ k_))) (HO0.out) (fun k_ hk => hk))))) (Reps.none _ _))); intro v331 w106 ho107 hb hg_ hnew_; clear hg_ hnew_; (first | rw [← Ny330.out] at ho107 | (simp only [Int.reduceToNat] at ho107; rw [← Ny330.out] at ho107)); have n0_ := Aside0.mk (Kd.V_elder' (by (with_reducible repeat (first | apply Kd.V_alloc | apply Kd.V_drewN | apply Kd.V_drew)); exact HO0.out) (Kd.N_base ho107) hb); have n1_ := Aside0.mk (Kd.N_lower ho107 (below_size (by repeat (first | (with_reducible first | exact HB.out | apply below_alloc | apply pw_below_drewN | apply below_drew1) | exact HB.out)))); have n2_ := Aside0.mk (below_step (by repeat (first | (with_reducible first | exact HB.out | apply below_alloc | apply pw_below_drewN | apply below_drew1) | exact HB.out)) hb); clear HO0; clear HB; have HO0 := n0_; have HO332 := n1_; have HB := n2_; clear n0_ n1_ n2_; clear hb ho107; obtain ⟨Ao108, co108, eo108⟩ := Kd.N_slice HO332.out; subst eo108) | ((with_reducible refine gate_callee (f := 11) rfl ?_); refine goesL_ (some 18) rfl rfl Try.func11 (by kernel_rfl) rfl #[.slice Ao108 y330.length co108] rfl (by (try simp only [List.map_toArray, List.map_cons, List.map_nil]); first | done | rfl | (simp only [List.length_drop, List.length_take]; rfl)) ?_; (with_reducible refine (wageofficelaw04_short.calls k _ _ y330 false _ ?side1 ?side2 A5.out).mono ?_); (case side1 => repeat (first | exact (Kd.N_reads' HO332.out).2.2 | (with_reducible refine Kd.C_alloc ?_ _) | (with_reducible refine Kd.C_drewN ?_ _) | (with_reducible refine Kd.C_drew ?_))); (case side2 => exact (Kd.N_reads' HO332.out).2.1); rintro e w' ⟨rfl, ⟨nd, rfl⟩⟩; refine ⟨_, rfl, ?_⟩))
    go_ret
    exact ⟨by first | rfl | (simp [errW_none, errW_some] <;> rfl) | (simp [*, errW_none, errW_some] <;> rfl), by repeat (first | (with_reducible first | exact HB.out | apply below_alloc | apply pw_below_drewN | apply below_drew1) | exact HB.out)⟩
end Go.Proofs.Ytgplnfhpeeifjaa.Q

namespace Go.Proofs.Ytgplnfhpeeifjaa.Q
open Go.RowKit Go.Proofs.YtgplnfhpeeifjaaW.PrintWords Go.Proofs.YtgplnfhpeeifjaaW.PrintLast Go.Proofs.YtgplnfhpeeifjaaW.PrintMore
set_option linter.unusedVariables false
set_option linter.unusedSimpArgs false
def isP (s : S33) : Bool := decide (s.f0 ≥ -1152921504606846976) && decide (s.f1 ≤ 1152921504606846976) && decide (s.f0 < s.f1)
def inS (n : Int) (s : S33) : Bool := hasP n s.f0 s.f1
def mem (l : List S33) (n : Int) : Bool := l.any (inS n)
def cnt (l : List S33) (n : Int) : Int := ((l.filter (inS n)).length : Int)
theorem inS_iff (n : Int) (s : S33) : inS n s = true ↔ isP s = true ∧ s.f0 ≤ n ∧ n < s.f1 := by
  unfold inS hasP isP
  simp only [Bool.and_eq_true, decide_eq_true_eq]
  omega
theorem isP_iff (s : S33) : isP s = true ↔ -1152921504606846976 ≤ s.f0 ∧ s.f1 ≤ 1152921504606846976 ∧ s.f0 < s.f1 := by
  unfold isP
  simp only [Bool.and_eq_true, decide_eq_true_eq]
  omega
theorem cnt_nonneg (l : List S33) (n : Int) : 0 ≤ cnt l n := by unfold cnt; omega
theorem cnt_le (l : List S33) (n : Int) : cnt l n ≤ l.length := by
  unfold cnt
  have := List.length_filter_le (inS n) l
  omega
theorem cnt_pos (l : List S33) (n : Int) : decide (cnt l n > 0) = mem l n := by
  unfold cnt mem
  by_cases h : l.any (inS n) = true
  · obtain ⟨s, hs, hn⟩ := List.any_eq_true.1 h
    have : s ∈ l.filter (inS n) := List.mem_filter.2 ⟨hs, hn⟩
    have h2 : 0 < (l.filter (inS n)).length := List.length_pos_of_mem this
    rw [h]
    simp only [decide_eq_true_eq]
    omega
  · have h2 : l.filter (inS n) = [] := by
      rw [List.filter_eq_nil_iff]
      intro s hs hn
      exact h (List.any_eq_true.2 ⟨s, hs, hn⟩)
    rw [h2]
    simp only [Bool.not_eq_true] at h
    rw [h]
    rfl
theorem cnt_zero (l : List S33) (n : Int) : (cnt l n == 0) = !mem l n := by
  rw [← cnt_pos]
  have := cnt_nonneg l n
  by_cases h : cnt l n = 0
  · simp [h]
  · have h2 : cnt l n > 0 := by omega
    simp [h, h2]
def edgs (k : Int) (l : List S33) : List S54 := l.flatMap fun s => if isP s = true then [⟨s.f0, k, 1⟩, ⟨s.f1, k, -1⟩] else []
def sumBy (k n : Int) (E : List S54) : Int := (E.map fun e => if e.f1 = k ∧ e.f0 ≤ n then e.f2 else 0).sum
theorem sumBy_append (k n : Int) (E F : List S54) : sumBy k n (E ++ F) = sumBy k n E + sumBy k n F := by simp [sumBy]
theorem sumBy_perm {E F : List S54} (k n : Int) (h : E.Perm F) : sumBy k n E = sumBy k n F := by
  induction h with
  | nil => rfl
  | cons x _ ih => simp only [sumBy, List.map_cons, List.sum_cons] at ih ⊢; rw [ih]
  | swap x y l => simp only [sumBy, List.map_cons, List.sum_cons]; omega
  | trans _ _ ih1 ih2 => exact ih1.trans ih2
theorem sumBy_edgs (k n : Int) (l : List S33) : sumBy k n (edgs k l) = cnt l n := by
  induction l with
  | nil => rfl
  | cons s l ih =>
    have e1 : edgs k (s :: l) = (if isP s = true then [⟨s.f0, k, 1⟩, ⟨s.f1, k, -1⟩] else []) ++ edgs k l := by simp [edgs]
    rw [e1, sumBy_append, ih]
    unfold cnt
    rw [List.filter_cons]
    have hi := inS_iff n s
    have hp := isP_iff s
    by_cases h : isP s = true
    · rw [if_pos h]
      have hp := hp.1 h
      by_cases hn : inS n s = true
      · have hn2 := hi.1 hn
        rw [if_pos hn]
        have e : sumBy k n [⟨s.f0, k, 1⟩, ⟨s.f1, k, -1⟩] = 1 := by
          simp only [sumBy, List.map_cons, List.map_nil, List.sum_cons, List.sum_nil]
          rw [if_pos ⟨trivial, hn2.2.1⟩, if_neg (by omega)]
          rfl
        rw [e, List.length_cons]
        omega
      · rw [if_neg hn]
        have hn2 : ¬ (s.f0 ≤ n ∧ n < s.f1) := fun q => hn (hi.2 ⟨h, q⟩)
        have e : sumBy k n [⟨s.f0, k, 1⟩, ⟨s.f1, k, -1⟩] = 0 := by
          simp only [sumBy, List.map_cons, List.map_nil, List.sum_cons, List.sum_nil, true_and]
          by_cases q : s.f0 ≤ n
          · rw [if_pos q, if_pos (by omega)]; rfl
          · rw [if_neg q, if_neg (by omega)]; rfl
        rw [e]
        omega
    · rw [if_neg h]
      have hn : ¬ inS n s = true := fun q => h (hi.1 q).1
      rw [if_neg hn]
      have : sumBy k n ([] : List S54) = 0 := rfl
      rw [this]
      omega
theorem sumBy_other (k j n : Int) (h : j ≠ k) (l : List S33) : sumBy j n (edgs k l) = 0 := by
  have : ∀ e ∈ edgs k l, e.f1 = k := by
    intro e he
    simp only [edgs, List.mem_flatMap] at he
    obtain ⟨s, _, hs⟩ := he
    split at hs
    · simp at hs
      rcases hs with rfl | rfl <;> rfl
    · simp at hs
  unfold sumBy
  generalize edgs k l = E at this
  induction E with
  | nil => rfl
  | cons e E ih =>
    rw [List.map_cons, List.sum_cons, ih (fun x hx => this x (List.mem_cons_of_mem _ hx)), if_neg (fun q => h (q.1.symm.trans (this e List.mem_cons_self)))]
    rfl
theorem edgs_len (k : Int) (l : List S33) : (edgs k l).length ≤ 2 * l.length := by
  induction l with
  | nil => simp [edgs]
  | cons s l ih =>
    have e1 : edgs k (s :: l) = (if isP s = true then [⟨s.f0, k, 1⟩, ⟨s.f1, k, -1⟩] else []) ++ edgs k l := by simp [edgs]
    rw [e1, List.length_append, List.length_cons]
    split
    · simp only [List.length_cons, List.length_nil]; omega
    · simp only [List.length_nil]; omega
theorem edgs_mem {k : Int} {l : List S33} {e : S54} (h : e ∈ edgs k l) : e.f1 = k ∧ (e.f2 = 1 ∨ e.f2 = -1) ∧ -1152921504606846976 ≤ e.f0 ∧ e.f0 ≤ 1152921504606846976 := by
  simp only [edgs, List.mem_flatMap] at h
  obtain ⟨s, _, hs⟩ := h
  split at hs
  · rename_i hp
    have hp := (isP_iff s).1 hp
    simp at hs
    rcases hs with rfl | rfl
    · exact ⟨rfl, .inl rfl, by simp; omega, by simp; omega⟩
    · exact ⟨rfl, .inr rfl, by simp; omega, by simp; omega⟩
  · simp at hs
def nextAt (rest : List S54) (a : Int) : Bool := match rest with | [] => false | e :: _ => e.f0 == a
def up (c k : Int) (e : S54) : Int := if e.f1 = k then c + e.f2 else c
def sweep (q : Int → Int → Bool) : List S54 → Int → Int → Bool → Int → List S33 → List S33
  | [], _, _, _, _, out => out
  | e :: rest, c0, c1, ins, fr, out =>
    if (nextAt rest e.f0 || q (up c0 0 e) (up c1 1 e) == ins) = true then sweep q rest (up c0 0 e) (up c1 1 e) ins fr out
    else sweep q rest (up c0 0 e) (up c1 1 e) (!ins) e.f0 (if ins = true then out ++ [⟨fr, e.f0⟩] else out)
def okE (E : List S54) : Prop := ∀ e ∈ E, (e.f1 = 0 ∨ e.f1 = 1) ∧ (e.f2 = 1 ∨ e.f2 = -1)
theorem rd_E (E : List S54) (i : Nat) (h : i < E.length) : rd_T54 E (i : Int) = E[i] := by simp [rd_T54, List.getD_eq_getElem?_getD, List.getElem?_eq_getElem h]
theorem nextAt_drop (E : List S54) (i : Nat) (a : Int) : nextAt (E.drop (i + 1)) a = if h : i + 1 < E.length then (E[i + 1].f0 == a) else false := by
  by_cases h : i + 1 < E.length
  · rw [dif_pos h, List.drop_eq_getElem_cons h]
    rfl
  · rw [dif_neg h, List.drop_eq_nil_of_le (by omega)]
    rfl
set_option maxHeartbeats 1000000 in
theorem l2_sweep (pp : Int → Int → Option Bool) (q : Int → Int → Bool) (hpp : ∀ a b : Int, -1000000000 ≤ a → a ≤ 1000000000 → -1000000000 ≤ b → b ≤ 1000000000 → pp a b = some (q a b)) (E : List S54) (hE : okE E) (hl : E.length ≤ 1000000) :
    ∀ (d i : Nat) (c0 c1 : Int) (ins : Bool) (fr : Int) (out : List S33), i ≤ E.length → E.length - i = d → -(i : Int) ≤ c0 → c0 ≤ i → -(i : Int) ≤ c1 → c1 ≤ i → out.length ≤ i →
      Ev (fun k => span_combine.l2 pp k E out ins fr E (E.length : Int) (i : Int) c0 c1) (sweep q (E.drop i) c0 c1 ins fr out) := by
  intro d
  induction d with
  | zero =>
    intro i c0 c1 ins fr out h1 h2 _ _ _ _ _
    refine Ev.step (f := fun _ => some out) (fun k => ?_) ?_
    · simp only [span_combine.l2]
      rw [if_neg (by omega)]
    · rw [List.drop_eq_nil_of_le (by omega)]
      exact Ev.now _
  | succ d ih =>
    intro i c0 c1 ins fr out h1 h2 g1 g2 g3 g4 h3
    have hi : i < E.length := by omega
    obtain ⟨hk, hb⟩ := hE E[i] (List.getElem_mem hi)
    have er := rd_E E i hi
    have w1 : wrap64 ((i : Int) + 1) = ((i + 1 : Nat) : Int) := by unfold wrap64; omega
    rw [List.drop_eq_getElem_cons hi]
    simp only [sweep]
    rw [nextAt_drop]
    -- what follows a bound, whichever list it is of
    have b0 : -((i + 1 : Nat) : Int) ≤ up c0 0 E[i] ∧ up c0 0 E[i] ≤ ((i + 1 : Nat) : Int) := by unfold up; split <;> omega
    have b1 : -((i + 1 : Nat) : Int) ≤ up c1 1 E[i] ∧ up c1 1 E[i] ≤ ((i + 1 : Nat) : Int) := by unfold up; split <;> omega
    have A := ih (i + 1) (up c0 0 E[i]) (up c1 1 E[i]) ins fr out (by omega) (by omega) b0.1 b0.2 b1.1 b1.2 (by omega)
    have B := ih (i + 1) (up c0 0 E[i]) (up c1 1 E[i]) (!ins) E[i].f0 (if ins = true then out ++ [⟨fr, E[i].f0⟩] else out) (by omega) (by omega) b0.1 b0.2 b1.1 b1.2 (by cases ins with | true => rw [if_pos rfl, List.length_append]; simp only [List.length_cons, List.length_nil]; omega | false => rw [if_neg (by simp)]; omega)
    have J3 : ∀ (z : Bool) (x0 x1 x2 : Int), x0 = E[i].f0 → Ev (fun k => span_combine.j3 pp k E out ins fr E (E.length : Int) (i : Int) z (up c0 0 E[i]) (up c1 1 E[i]) x0 x1 x2) (if z = true then sweep q (E.drop (i + 1)) (up c0 0 E[i]) (up c1 1 E[i]) ins fr out else sweep q (E.drop (i + 1)) (up c0 0 E[i]) (up c1 1 E[i]) (!ins) E[i].f0 (if ins = true then out ++ [⟨fr, E[i].f0⟩] else out)) := by
      intro z x0 x1 x2 hx
      subst hx
      cases z with
      | true =>
        refine Ev.step (f := fun k => span_combine.l2 pp k E out ins fr E (E.length : Int) ((i + 1 : Nat) : Int) (up c0 0 E[i]) (up c1 1 E[i])) (fun k => ?_) A
        simp only [span_combine.j3, if_true, w1]
      | false =>
        refine Ev.step (f := fun k => span_combine.l2 pp k E (if ins = true then out ++ [⟨fr, E[i].f0⟩] else out) (!ins) E[i].f0 E (E.length : Int) ((i + 1 : Nat) : Int) (up c0 0 E[i]) (up c1 1 E[i])) (fun k => ?_) B
        simp only [span_combine.j3, w1]
        rw [if_neg (by simp)]
        cases ins with
        | true => rw [if_pos rfl, if_pos (by omega), if_pos rfl]
        | false => rw [if_neg (by simp), if_neg (by simp)]
    have J4 : ∀ (z : Bool) (x0 x1 x2 : Int), x0 = E[i].f0 → Ev (fun k => span_combine.j4 pp k E out ins fr E (E.length : Int) (i : Int) z (up c0 0 E[i]) (up c1 1 E[i]) x0 x1 x2) (if z = true then sweep q (E.drop (i + 1)) (up c0 0 E[i]) (up c1 1 E[i]) ins fr out else sweep q (E.drop (i + 1)) (up c0 0 E[i]) (up c1 1 E[i]) (!ins) E[i].f0 (if ins = true then out ++ [⟨fr, E[i].f0⟩] else out)) := by
      intro z x0 x1 x2 hx
      subst hx
      cases z with
      | true =>
        refine Ev.step (f := fun k => span_combine.l2 pp k E out ins fr E (E.length : Int) ((i + 1 : Nat) : Int) (up c0 0 E[i]) (up c1 1 E[i])) (fun k => ?_) A
        simp only [span_combine.j4, if_true, w1]
      | false =>
        refine Ev.step (f := fun k => span_combine.l2 pp k E (if ins = true then out ++ [⟨fr, E[i].f0⟩] else out) (!ins) E[i].f0 E (E.length : Int) ((i + 1 : Nat) : Int) (up c0 0 E[i]) (up c1 1 E[i])) (fun k => ?_) B
        simp only [span_combine.j4, w1]
        rw [if_neg (by simp)]
        cases ins with
        | true => rw [if_pos rfl, if_pos (by omega), if_pos rfl]
        | false => rw [if_neg (by simp), if_neg (by simp)]
    clear A B
    have hq : pp (up c0 0 E[i]) (up c1 1 E[i]) = some (q (up c0 0 E[i]) (up c1 1 E[i])) := hpp _ _ (by omega) (by omega) (by omega) (by omega)
    rcases hk with hk | hk
    · have e0 : wrap64 (c0 + E[i].f2) = up c0 0 E[i] := by
        unfold up
        rw [if_pos hk]
        unfold wrap64
        omega
      have e1 : up c1 1 E[i] = c1 := by unfold up; rw [if_neg (by omega)]
      have S : ∀ k, span_combine.l2 pp (k + 1) E out ins fr E (E.length : Int) (i : Int) c0 c1 = span_combine.j3 pp k E out ins fr E (E.length : Int) (i : Int) ((if h : i + 1 < E.length then (E[i + 1].f0 == E[i].f0) else false) || q (up c0 0 E[i]) (up c1 1 E[i]) == ins) (up c0 0 E[i]) (up c1 1 E[i]) E[i].f0 E[i].f1 E[i].f2 := by
        intro k
        simp only [span_combine.l2, er, w1, e0]
        rw [if_pos (by omega), if_pos (by omega), if_pos (by omega), if_pos hk]
        rw [e1] at hq ⊢
        by_cases h : i + 1 < E.length
        · rw [if_pos (by omega), if_pos (by omega), rd_E E (i + 1) h, dif_pos h]
          by_cases h5 : E[i + 1].f0 = E[i].f0
          · rw [if_pos h5, h5]
            simp
          · have h6 : (E[i + 1].f0 == E[i].f0) = false := by rw [beq_eq_false_iff_ne]; exact h5
            rw [if_neg h5, hq, h6]
            simp only [Option.bind_some, Bool.false_or]
        · rw [if_neg (by omega), dif_neg h, hq]
          simp only [Option.bind_some, Bool.false_or]
      exact Ev.step S (J3 _ _ _ _ rfl)
    · have e0 : wrap64 (c1 + E[i].f2) = up c1 1 E[i] := by
        unfold up
        rw [if_pos hk]
        unfold wrap64
        omega
      have e1 : up c0 0 E[i] = c0 := by unfold up; rw [if_neg (by omega)]
      have S : ∀ k, span_combine.l2 pp (k + 1) E out ins fr E (E.length : Int) (i : Int) c0 c1 = span_combine.j4 pp k E out ins fr E (E.length : Int) (i : Int) ((if h : i + 1 < E.length then (E[i + 1].f0 == E[i].f0) else false) || q (up c0 0 E[i]) (up c1 1 E[i]) == ins) (up c0 0 E[i]) (up c1 1 E[i]) E[i].f0 E[i].f1 E[i].f2 := by
        intro k
        simp only [span_combine.l2, er, w1, e0]
        rw [if_pos (by omega), if_pos (by omega), if_pos (by omega), if_neg (by omega), if_pos hk]
        rw [e1] at hq ⊢
        by_cases h : i + 1 < E.length
        · rw [if_pos (by omega), if_pos (by omega), rd_E E (i + 1) h, dif_pos h]
          by_cases h5 : E[i + 1].f0 = E[i].f0
          · rw [if_pos h5, h5]
            simp
          · have h6 : (E[i + 1].f0 == E[i].f0) = false := by rw [beq_eq_false_iff_ne]; exact h5
            rw [if_neg h5, hq, h6]
            simp only [Option.bind_some, Bool.false_or]
        · rw [if_neg (by omega), dif_neg h, hq]
          simp only [Option.bind_some, Bool.false_or]
      exact Ev.step S (J4 _ _ _ _ rfl)
end Go.Proofs.Ytgplnfhpeeifjaa.Q

namespace Go.Proofs.Ytgplnfhpeeifjaa.Q
open Go.RowKit Go.Proofs.YtgplnfhpeeifjaaW.PrintWords Go.Proofs.YtgplnfhpeeifjaaW.PrintLast Go.Proofs.YtgplnfhpeeifjaaW.PrintMore
set_option linter.unusedVariables false
set_option linter.unusedSimpArgs false
def tot (k : Int) (E : List S54) : Int := (E.map fun e => if e.f1 = k then e.f2 else 0).sum
theorem tot_append (k : Int) (E F : List S54) : tot k (E ++ F) = tot k E + tot k F := by simp [tot]
theorem tot_one (k : Int) (E : List S54) (e : S54) : tot k (E ++ [e]) = up (tot k E) k e := by
  rw [tot_append]
  simp only [tot, up, List.map_cons, List.map_nil, List.sum_cons, List.sum_nil]
  split <;> omega
theorem sumBy_all (k n : Int) (E : List S54) (h : ∀ e ∈ E, e.f0 ≤ n) : sumBy k n E = tot k E := by
  induction E with
  | nil => rfl
  | cons e E ih =>
    have h1 := h e List.mem_cons_self
    have h2 := ih (fun x hx => h x (List.mem_cons_of_mem _ hx))
    simp only [sumBy, tot, List.map_cons, List.sum_cons] at h2 ⊢
    rw [h2]
    by_cases q : e.f1 = k
    · rw [if_pos ⟨q, h1⟩, if_pos q]
    · rw [if_neg (fun z => q z.1), if_neg q]
theorem sumBy_none (k n : Int) (E : List S54) (h : ∀ e ∈ E, n < e.f0) : sumBy k n E = 0 := by
  induction E with
  | nil => rfl
  | cons e E ih =>
    have h1 := h e List.mem_cons_self
    have h2 := ih (fun x hx => h x (List.mem_cons_of_mem _ hx))
    simp only [sumBy, List.map_cons, List.sum_cons] at h2 ⊢
    rw [h2, if_neg (by omega)]
    rfl
def NF (l : List S33) : Prop := l.Pairwise (fun s t => s.f1 < t.f0) ∧ ∀ s ∈ l, isP s = true
def hd (rest : List S54) (P : S54 → Prop) : Prop := match rest with | [] => True | e :: _ => P e
def Sorted (E : List S54) : Prop := E.Pairwise (fun a b => a.f0 ≤ b.f0)
theorem mem_cons (s : S33) (l : List S33) (n : Int) : mem (s :: l) n = (inS n s || mem l n) := by simp [mem]
theorem mem_append (l m : List S33) (n : Int) : mem (l ++ m) n = (mem l n || mem m n) := by simp [mem]
theorem mem_far (l : List S33) (n : Int) (h : ∀ s ∈ l, s.f1 ≤ n) : mem l n = false := by
  by_cases q : mem l n = true
  · obtain ⟨s, hs, hn⟩ := List.any_eq_true.1 q
    have := (inS_iff n s).1 hn
    have := h s hs
    omega
  · simpa using q
theorem mem_near (l : List S33) (n : Int) (h : ∀ s ∈ l, n < s.f0) : mem l n = false := by
  by_cases q : mem l n = true
  · obtain ⟨s, hs, hn⟩ := List.any_eq_true.1 q
    have := (inS_iff n s).1 hn
    have := h s hs
    omega
  · simpa using q
structure Inv (q : Int → Int → Bool) (E D rest : List S54) (ins : Bool) (fr : Int) (out : List S33) : Prop where
  set : ∀ n, hd rest (fun e => n < e.f0) → q (sumBy 0 n E) (sumBy 1 n E) = (mem out n || (ins && decide (fr ≤ n)))
  nf : NF out
  lt : ∀ s ∈ out, (ins = true → s.f1 < fr) ∧ hd rest (fun e => s.f1 < e.f0)
  fr_ : ins = true → -1152921504606846976 ≤ fr ∧ hd rest (fun e => fr < e.f0)
  now : (∀ d ∈ D, hd rest (fun e => d.f0 < e.f0)) → D ≠ [] → ins = q (tot 0 D) (tot 1 D)
set_option maxHeartbeats 1000000 in
theorem sweep_spec (q : Int → Int → Bool) (E : List S54) (hS : Sorted E) (hB : ∀ e ∈ E, -1152921504606846976 ≤ e.f0 ∧ e.f0 ≤ 1152921504606846976) :
    ∀ (rest D : List S54) (ins : Bool) (fr : Int) (out : List S33), E = D ++ rest → Inv q E D rest ins fr out →
      ∃ ins' fr' , Inv q E E [] ins' fr' (sweep q rest (tot 0 D) (tot 1 D) ins fr out) := by
  intro rest
  induction rest with
  | nil =>
    intro D ins fr out he hI
    rw [List.append_nil] at he
    subst he
    exact ⟨ins, fr, hI⟩
  | cons e rest ih =>
    intro D ins fr out he hI
    have he2 : E = (D ++ [e]) ++ rest := by rw [he, List.append_assoc]; rfl
    have hS2 := hS
    rw [he] at hS2
    have hS2 := List.pairwise_append.1 hS2
    obtain ⟨_, hR, hDR⟩ := hS2
    have hR2 := List.pairwise_cons.1 hR
    have hDe : ∀ d ∈ D, d.f0 ≤ e.f0 := fun d hd_ => hDR d hd_ e List.mem_cons_self
    have hbe := hB e (by rw [he]; simp)
    simp only [sweep]
    rw [← tot_one, ← tot_one]
    by_cases hn : nextAt rest e.f0 = true
    · rw [hn, Bool.true_or, if_pos rfl]
      refine ih (D ++ [e]) ins fr out he2 ?_
      cases rest with
      | nil => simp [nextAt] at hn
      | cons e' r' =>
        have h0 : e'.f0 = e.f0 := by simpa [nextAt] using hn
        refine ⟨fun n hh => hI.set n ?_, hI.nf, fun s hs => ⟨(hI.lt s hs).1, ?_⟩, fun h => ⟨(hI.fr_ h).1, ?_⟩, fun h _ => ?_⟩
        · simp only [hd] at hh ⊢; omega
        · have := (hI.lt s hs).2; simp only [hd] at this ⊢; omega
        · have := (hI.fr_ h).2; simp only [hd] at this ⊢; omega
        · have := h e (by simp)
          simp only [hd] at this
          omega
    · have hn0 : nextAt rest e.f0 = false := by simpa using hn
      rw [hn0, Bool.false_or]
      -- all that follows begins behind e
      have hlate : ∀ x ∈ rest, e.f0 < x.f0 := by
        intro x hx
        cases rest with
        | nil => simp at hx
        | cons e' r' =>
          have h0 : e'.f0 ≠ e.f0 := by simpa [nextAt] using hn0
          have h1 := hR2.1 e' List.mem_cons_self
          have h2 : e'.f0 ≤ x.f0 := by
            rcases List.mem_cons.1 hx with rfl | hx
            · exact Int.le_refl _
            · exact (List.pairwise_cons.1 hR2.2).1 x hx
          omega
      have hhd : hd rest (fun x => e.f0 < x.f0) := by
        cases rest with
        | nil => trivial
        | cons e' r' => exact hlate e' List.mem_cons_self
      have hval : ∀ n, e.f0 ≤ n → hd rest (fun x => n < x.f0) → q (sumBy 0 n E) (sumBy 1 n E) = q (tot 0 (D ++ [e])) (tot 1 (D ++ [e])) := by
        intro n h1 h2
        have h3 : ∀ x ∈ rest, n < x.f0 := by
          intro x hx
          cases rest with
          | nil => simp at hx
          | cons e' r' =>
            rcases List.mem_cons.1 hx with rfl | hx'
            · exact h2
            · have := (List.pairwise_cons.1 hR2.2).1 x hx'
              simp only [hd] at h2
              omega
        have h4 : ∀ k, sumBy k n E = tot k (D ++ [e]) := by
          intro k
          rw [he2, sumBy_append, sumBy_none k n rest h3, sumBy_all k n (D ++ [e])]
          · omega
          · intro x hx
            rcases List.mem_append.1 hx with hx | hx
            · have := hDe x hx; omega
            · simp at hx; subst hx; exact h1
        rw [h4 0, h4 1]
      generalize hv : q (tot 0 (D ++ [e])) (tot 1 (D ++ [e])) = v at hval
      have hltout : ∀ s ∈ out, s.f1 < e.f0 := fun s hs => (hI.lt s hs).2
      by_cases hc : v = ins
      · subst hc
        rw [if_pos (by simp)]
        refine ih (D ++ [e]) v fr out he2 ⟨fun n hh => ?_, hI.nf, fun s hs => ⟨(hI.lt s hs).1, ?_⟩, fun h => ⟨(hI.fr_ h).1, ?_⟩, fun _ _ => hv.symm⟩
        · by_cases h1 : n < e.f0
          · exact hI.set n h1
          · rw [hval n (by omega) hh, mem_far out n (fun s hs => by have := hltout s hs; omega), Bool.false_or]
            cases v with
            | false => rfl
            | true =>
              have := (hI.fr_ rfl).2
              simp only [hd] at this
              simp only [Bool.true_and]
              rw [decide_eq_true (by omega)]
        · have := hltout s hs
          cases rest with
          | nil => trivial
          | cons e' r' => simp only [hd] at hhd ⊢; omega
        · have := (hI.fr_ h).2
          cases rest with
          | nil => trivial
          | cons e' r' => simp only [hd] at this hhd ⊢; omega
      · rw [if_neg (by simpa using hc)]
        cases ins with
        | true =>
          have hv0 : v = false := by simpa using hc
          subst hv0
          have hf := hI.fr_ rfl
          have hf2 := hf.2
          simp only [hd] at hf2
          have hnew : isP (⟨fr, e.f0⟩ : S33) = true := (isP_iff _).2 ⟨hf.1, hbe.2, hf2⟩
          rw [if_pos rfl]
          refine ih (D ++ [e]) false e.f0 _ he2 ⟨fun n hh => ?_, ⟨?_, ?_⟩, fun s hs => ⟨fun h => by simp at h, ?_⟩, fun h => by simp at h, fun _ _ => hv.symm⟩
          · rw [mem_append, Bool.false_and, Bool.or_false]
            have e1 : mem [(⟨fr, e.f0⟩ : S33)] n = (decide (fr ≤ n) && decide (n < e.f0)) := by
              have := inS_iff n (⟨fr, e.f0⟩ : S33)
              rw [Bool.eq_iff_iff]
              simp only [mem, List.any_cons, List.any_nil, Bool.or_false, Bool.and_eq_true, decide_eq_true_eq]
              rw [this]
              exact ⟨fun h => h.2, fun h => ⟨hnew, h⟩⟩
            rw [e1]
            by_cases h1 : n < e.f0
            · rw [hI.set n h1, decide_eq_true h1, Bool.and_true, Bool.true_and]
            · rw [hval n (by omega) hh, mem_far out n (fun s hs => by have := hltout s hs; omega), decide_eq_false h1]
              simp
          · refine List.pairwise_append.2 ⟨hI.nf.1, List.pairwise_singleton _ _, fun s hs t ht => ?_⟩
            simp at ht
            subst ht
            exact (hI.lt s hs).1 rfl
          · intro s hs
            rcases List.mem_append.1 hs with hs | hs
            · exact hI.nf.2 s hs
            · simp at hs
              subst hs
              exact hnew
          · rcases List.mem_append.1 hs with hs | hs
            · have := hltout s hs
              cases rest with
              | nil => trivial
              | cons e' r' => simp only [hd] at hhd ⊢; omega
            · simp at hs
              subst hs
              exact hhd
        | false =>
          have hv0 : v = true := by simpa using hc
          subst hv0
          rw [if_neg (by simp)]
          refine ih (D ++ [e]) true e.f0 out he2 ⟨fun n hh => ?_, hI.nf, fun s hs => ⟨fun _ => hltout s hs, ?_⟩, fun _ => ⟨hbe.1, hhd⟩, fun _ _ => hv.symm⟩
          · by_cases h1 : n < e.f0
            · rw [hI.set n h1, Bool.false_and, Bool.or_false, decide_eq_false (show ¬ e.f0 ≤ n by omega)]
              simp
            · rw [hval n (by omega) hh, decide_eq_true (show e.f0 ≤ n by omega)]
              simp
          · have := hltout s hs
            cases rest with
            | nil => trivial
            | cons e' r' => simp only [hd] at hhd ⊢; omega
theorem sweep_len (q : Int → Int → Bool) : ∀ (rest : List S54) (c0 c1 : Int) (ins : Bool) (fr : Int) (out : List S33), (sweep q rest c0 c1 ins fr out).length ≤ out.length + rest.length := by
  intro rest
  induction rest with
  | nil => intro c0 c1 ins fr out; simp [sweep]
  | cons e rest ih =>
    intro c0 c1 ins fr out
    simp only [sweep]
    split
    · have := ih (up c0 0 e) (up c1 1 e) ins fr out
      rw [List.length_cons]
      omega
    · have := ih (up c0 0 e) (up c1 1 e) (!ins) e.f0 (if ins = true then out ++ [⟨fr, e.f0⟩] else out)
      have h2 : (if ins = true then out ++ [(⟨fr, e.f0⟩ : S33)] else out).length ≤ out.length + 1 := by
        split
        · rw [List.length_append]; simp
        · omega
      rw [List.length_cons]
      omega
theorem rd_S (l : List S33) (i : Nat) (h : i < l.length) : rd_T33 l (i : Int) = l[i] := by simp [rd_T33, List.getD_eq_getElem?_getD, List.getElem?_eq_getElem h]
theorem proper_f (s : S33) : span_proper.f s.f0 s.f1 = some (isP s) := by rw [has_proper]; rfl
theorem l1_edges (pp : Int → Int → Option Bool) (k0 : Int) (x16 : List (List S33)) (x17 x18 : Int) (l : List S33) (hl : l.length ≤ 100000) {r : List S33} :
    ∀ (d i : Nat) (x5 : List S54), i ≤ l.length → l.length - i = d → x5.length + 2 * d ≤ 1000000 →
      Ev (fun k => span_combine.l0 pp k (x5 ++ edgs k0 (l.drop i)) x16 x17 (wrap64 (x18 + 1))) r → Ev (fun k => span_combine.l1 pp k x5 k0 x16 x17 x18 l (l.length : Int) (i : Int)) r := by
  intro d
  induction d with
  | zero =>
    intro i x5 h1 h2 h3 h
    have hi : i = l.length := by omega
    subst hi
    rw [List.drop_length] at h
    refine Ev.step (fun k => ?_) h
    simp only [span_combine.l1]
    rw [if_neg (by omega)]
    simp [edgs]
  | succ d ih =>
    intro i x5 h1 h2 h3 h
    have hi : i < l.length := by omega
    have w1 : wrap64 ((i : Int) + 1) = ((i + 1 : Nat) : Int) := by unfold wrap64; omega
    have er := rd_S l i hi
    rw [List.drop_eq_getElem_cons hi] at h
    have e1 : edgs k0 (l[i] :: l.drop (i + 1)) = (if isP l[i] = true then [⟨l[i].f0, k0, 1⟩, ⟨l[i].f1, k0, -1⟩] else []) ++ edgs k0 (l.drop (i + 1)) := by unfold edgs; rw [List.flatMap_cons]
    rw [e1, ← List.append_assoc] at h
    have A := ih (i + 1) (x5 ++ (if isP l[i] = true then [⟨l[i].f0, k0, 1⟩, ⟨l[i].f1, k0, -1⟩] else [])) (by omega) (by omega) (by rw [List.length_append]; split <;> simp only [List.length_cons, List.length_nil] <;> omega) h
    refine Ev.step (fun k => ?_) A
    simp only [span_combine.l1, er, w1]
    rw [if_pos (by omega), if_pos (by omega), if_pos (by omega), proper_f]
    simp only [Option.bind_some]
    by_cases hp : isP l[i] = true
    · rw [if_pos hp, if_pos hp, if_pos (by simp only [List.length_cons, List.length_nil]; omega)]
    · rw [if_neg hp, if_neg hp, List.append_nil]
theorem combine_spec (pp : Int → Int → Option Bool) (q : Int → Int → Bool) (hpp : ∀ a b : Int, -1000000000 ≤ a → a ≤ 1000000000 → -1000000000 ≤ b → b ≤ 1000000000 → pp a b = some (q a b)) (h00 : q 0 0 = false)
    (a b : List S33) (ha : a.length ≤ 100000) (hb : b.length ≤ 100000) :
    ∃ r, Ev (fun k => span_combine.f pp k [a, b]) r ∧ NF r ∧ (∀ n, mem r n = q (cnt a n) (cnt b n)) ∧ r.length ≤ 2 * a.length + 2 * b.length := by
  have la := edgs_len 0 a
  have lb := edgs_len 1 b
  have hp := (sortd_size ord_swo (edgs 0 a ++ edgs 1 b))
  generalize hE : sortd ordCmp (edgs 0 a ++ edgs 1 b) = E at hp
  obtain ⟨hperm, hsort⟩ := hp
  have hlen : E.length = (edgs 0 a).length + (edgs 1 b).length := by rw [hperm.length_eq, List.length_append]
  have hmem : ∀ e ∈ E, (e.f1 = 0 ∨ e.f1 = 1) ∧ (e.f2 = 1 ∨ e.f2 = -1) ∧ -1152921504606846976 ≤ e.f0 ∧ e.f0 ≤ 1152921504606846976 := by
    intro e he
    rcases List.mem_append.1 (hperm.mem_iff.1 he) with h | h
    · have := edgs_mem h
      exact ⟨.inl this.1, this.2⟩
    · have := edgs_mem h
      exact ⟨.inr this.1, this.2⟩
  have hokE : okE E := fun e he => ⟨(hmem e he).1, (hmem e he).2.1⟩
  have hSorted : Sorted E := by
    unfold Sorted
    rw [List.pairwise_iff_getElem]
    intro i j hi hj hij
    have := hsort i j hij (by rw [← hperm.length_eq]; exact hj)
    rw [getElem!_pos E i hi, getElem!_pos E j hj, ord_lt] at this
    simpa using this
  have hsum : ∀ n, sumBy 0 n E = cnt a n ∧ sumBy 1 n E = cnt b n := by
    intro n
    constructor
    · rw [sumBy_perm 0 n hperm, sumBy_append, sumBy_edgs, sumBy_other 1 0 n (by omega)]; omega
    · rw [sumBy_perm 1 n hperm, sumBy_append, sumBy_edgs, sumBy_other 0 1 n (by omega)]; omega
  have hinit : Inv q E [] E false 0 [] := by
    refine ⟨fun n hh => ?_, ⟨List.Pairwise.nil, by simp⟩, by simp, by simp, by simp⟩
    have : ∀ x ∈ E, n < x.f0 := by
      intro x hx
      cases E with
      | nil => simp at hx
      | cons e r =>
        rcases List.mem_cons.1 hx with rfl | hx'
        · exact hh
        · have := (List.pairwise_cons.1 hSorted).1 x hx'
          simp only [hd] at hh
          omega
    rw [sumBy_none 0 n E this, sumBy_none 1 n E this, h00]
    rfl
  obtain ⟨ins', fr', hI⟩ := sweep_spec q E hSorted (fun e he => (hmem e he).2.2) E [] false 0 [] rfl hinit
  have t0 : tot 0 ([] : List S54) = 0 := rfl
  have t1 : tot 1 ([] : List S54) = 0 := rfl
  rw [t0, t1] at hI
  have hins : ins' = false ∨ E = [] := by
    by_cases hE0 : E = []
    · exact .inr hE0
    · refine .inl ?_
      have h := hI.now (fun _ _ => trivial) hE0
      have z : ∀ k, tot k E = sumBy k 1152921504606846976 E := fun k => (sumBy_all k _ E (fun e he => (hmem e he).2.2.2)).symm
      have cz : ∀ l : List S33, cnt l 1152921504606846976 = 0 := by
        intro l
        unfold cnt
        rw [List.filter_eq_nil_iff.2]
        · rfl
        · intro s hs hn
          have := (inS_iff _ s).1 hn
          have := (isP_iff s).1 this.1
          omega
      rw [z 0, z 1, (hsum _).1, (hsum _).2, cz a, cz b, h00] at h
      exact h
  have hset : ∀ n, mem (sweep q E 0 0 false 0 []) n = q (cnt a n) (cnt b n) := by
    intro n
    have h := hI.set n trivial
    rw [(hsum n).1, (hsum n).2] at h
    rcases hins with h0 | h0
    · rw [h, h0, Bool.false_and, Bool.or_false]
    · subst h0
      have := hsum n
      have e0 : cnt a n = 0 := this.1.symm
      have e1 : cnt b n = 0 := this.2.symm
      rw [e0, e1, h00]
      rfl
  refine ⟨sweep q E 0 0 false 0 [], ?_, hI.nf, hset, ?_⟩
  · have hl2 := l2_sweep pp q hpp E hokE (by omega) (E.length - 0) 0 0 0 false 0 [] (Nat.zero_le _) rfl (by omega) (by omega) (by omega) (by omega) (by simp)
    have hl0 : Ev (fun k => span_combine.l0 pp k (edgs 0 a ++ edgs 1 b) [a, b] 2 2) (sweep q E 0 0 false 0 []) := by
      refine Ev.step (fun k => ?_) hl2
      simp only [span_combine.l0]
      rw [if_neg (by omega)]
      unfold span_edge__span_combine_1.f
      rw [if_pos (by rw [List.length_append]; omega), hE]
      rfl
    have hb1 := l1_edges pp 1 [a, b] 2 1 b hb (b.length - 0) 0 (edgs 0 a) (Nat.zero_le _) rfl (by omega) (r := sweep q E 0 0 false 0 []) (by rw [List.drop_zero, show wrap64 (1 + 1) = 2 by unfold wrap64; omega]; exact hl0)
    have hl1 : Ev (fun k => span_combine.l0 pp k (edgs 0 a) [a, b] 2 1) (sweep q E 0 0 false 0 []) := by
      refine Ev.step (fun k => ?_) hb1
      simp only [span_combine.l0]
      rw [if_pos (by omega), if_pos (by omega), if_pos (by simp)]
      rfl
    have ha1 := l1_edges pp 0 [a, b] 2 0 a ha (a.length - 0) 0 [] (Nat.zero_le _) rfl (by simp; omega) (r := sweep q E 0 0 false 0 []) (by rw [List.drop_zero, List.nil_append, show wrap64 (0 + 1) = 1 by unfold wrap64; omega]; exact hl1)
    refine Ev.step (g := fun k => span_combine.f pp k [a, b]) (fun k => ?_) ha1
    unfold span_combine.f
    simp only [span_combine.l0, List.length_cons, List.length_nil]
    rw [if_pos (by omega), if_pos (by omega), if_pos (by omega)]
    rfl
  · have := sweep_len q E 0 0 false 0 []
    rw [List.length_nil] at this
    omega
end Go.Proofs.Ytgplnfhpeeifjaa.Q

namespace Go.Proofs.Ytgplnfhpeeifjaa.Q
open Go.RowKit Go.Proofs.YtgplnfhpeeifjaaW.PrintWords Go.Proofs.YtgplnfhpeeifjaaW.PrintLast Go.Proofs.YtgplnfhpeeifjaaW.PrintMore
set_option linter.unusedVariables false
set_option linter.unusedSimpArgs false
instance : DecidableEq S33 := fun a b => decidable_of_iff (a.f0 = b.f0 ∧ a.f1 = b.f1) (by cases a; cases b; simp)
theorem nf_first {s : S33} {l : List S33} (h : NF (s :: l)) (n : Int) (hn : mem (s :: l) n = true) : s.f0 ≤ n := by
  obtain ⟨t, ht, hi⟩ := List.any_eq_true.1 hn
  have hi := (inS_iff n t).1 hi
  rcases List.mem_cons.1 ht with rfl | ht
  · exact hi.2.1
  · have h1 := (List.pairwise_cons.1 h.1).1 t ht
    have h2 := (isP_iff s).1 (h.2 s List.mem_cons_self)
    omega
theorem nf_tail {s : S33} {l : List S33} (h : NF (s :: l)) : NF l := ⟨(List.pairwise_cons.1 h.1).2, fun t ht => h.2 t (List.mem_cons_of_mem _ ht)⟩
theorem nf_rest {s : S33} {l : List S33} (h : NF (s :: l)) (n : Int) : mem l n = (mem (s :: l) n && decide (s.f1 < n)) := by
  have hp := (isP_iff s).1 (h.2 s List.mem_cons_self)
  rw [mem_cons]
  by_cases h1 : s.f1 < n
  · have : inS n s = false := by
      by_cases q : inS n s = true
      · have := (inS_iff n s).1 q; omega
      · simpa using q
    rw [this, decide_eq_true h1]
    simp
  · rw [decide_eq_false h1, Bool.and_false]
    refine mem_near l n (fun t ht => ?_)
    have := (List.pairwise_cons.1 h.1).1 t ht
    omega
theorem nf_unique : ∀ (l m : List S33), NF l → NF m → (∀ n, mem l n = mem m n) → l = m := by
  intro l
  induction l with
  | nil =>
    intro m _ hm h
    cases m with
    | nil => rfl
    | cons t m =>
      have ht := (isP_iff t).1 (hm.2 t List.mem_cons_self)
      have := h t.f0
      rw [mem_cons, (inS_iff t.f0 t).2 ⟨hm.2 t List.mem_cons_self, by omega, by omega⟩] at this
      simp [mem] at this
  | cons s l ih =>
    intro m hl hm h
    have hs := (isP_iff s).1 (hl.2 s List.mem_cons_self)
    have is : mem (s :: l) s.f0 = true := by rw [mem_cons, (inS_iff s.f0 s).2 ⟨hl.2 s List.mem_cons_self, by omega, by omega⟩]; rfl
    cases m with
    | nil => rw [h] at is; simp [mem] at is
    | cons t m =>
      have ht := (isP_iff t).1 (hm.2 t List.mem_cons_self)
      have it : mem (t :: m) t.f0 = true := by rw [mem_cons, (inS_iff t.f0 t).2 ⟨hm.2 t List.mem_cons_self, by omega, by omega⟩]; rfl
      have e0 : s.f0 = t.f0 := by
        have h1 := nf_first hl t.f0 (by rw [h]; exact it)
        have h2 := nf_first hm s.f0 (by rw [← h]; exact is)
        omega
      have out : ∀ {a : S33} {k : List S33}, NF (a :: k) → mem (a :: k) a.f1 = false := by
        intro a k hk
        rw [mem_cons]
        have h1 : inS a.f1 a = false := by
          by_cases q : inS a.f1 a = true
          · have := (inS_iff a.f1 a).1 q; omega
          · simpa using q
        rw [h1, mem_near k a.f1 (fun x hx => (List.pairwise_cons.1 hk.1).1 x hx)]
        rfl
      have e1 : s.f1 = t.f1 := by
        rcases Int.lt_trichotomy s.f1 t.f1 with h1 | h1 | h1
        · have := out hl
          rw [h, mem_cons, (inS_iff s.f1 t).2 ⟨hm.2 t List.mem_cons_self, by omega, by omega⟩] at this
          simp at this
        · exact h1
        · have := out hm
          rw [← h, mem_cons, (inS_iff t.f1 s).2 ⟨hl.2 s List.mem_cons_self, by omega, by omega⟩] at this
          simp at this
      have e : s = t := by cases s; cases t; simp at e0 e1; simp [e0, e1]
      subst e
      rw [ih m (nf_tail hl) (nf_tail hm) (fun n => by rw [nf_rest hl, nf_rest hm, h])]
abbrev small (l : List S33) : Prop := l.length ≤ 100000
theorem union_spec (a b : List S33) (ha : small a) (hb : small b) : ∃ r, Ev (fun k => span_Union.f k a b) r ∧ NF r ∧ (∀ n, mem r n = (mem a n || mem b n)) ∧ r.length ≤ 2 * a.length + 2 * b.length := by
  obtain ⟨r, h1, h2, h3, h4⟩ := combine_spec span_Union_1.f (fun x y => decide (wrap64 (x + y) > 0)) (fun x y _ _ _ _ => rfl) (by unfold wrap64; decide) a b ha hb
  refine ⟨r, ?_, h2, fun n => ?_, h4⟩
  · refine Ev.congr (f := fun k => (span_combine.f span_Union_1.f k [a, b]).bind some) (fun k => ?_) (Ev.bind h1 (Ev.now _))
    rfl
  · rw [h3]
    have x0 := cnt_nonneg a n
    have y0 := cnt_nonneg b n
    have x1 := cnt_le a n
    have y1 := cnt_le b n
    have w : wrap64 (cnt a n + cnt b n) = cnt a n + cnt b n := by unfold wrap64; unfold small at ha hb; omega
    rw [w, ← cnt_pos, ← cnt_pos]
    by_cases p : cnt a n > 0 <;> by_cases q : cnt b n > 0 <;> simp [p, q] <;> omega
theorem meet_spec (a b : List S33) (ha : small a) (hb : small b) : ∃ r, Ev (fun k => span_Meet.f k a b) r ∧ NF r ∧ (∀ n, mem r n = (mem a n && mem b n)) ∧ r.length ≤ 2 * a.length + 2 * b.length := by
  obtain ⟨r, h1, h2, h3, h4⟩ := combine_spec span_Meet_1.f (fun x y => decide (x > 0) && decide (y > 0)) (fun x y _ _ _ _ => by unfold span_Meet_1.f; by_cases h : x > 0 <;> simp [h]) (by decide) a b ha hb
  refine ⟨r, ?_, h2, fun n => ?_, h4⟩
  · exact Ev.congr (f := fun k => (span_combine.f span_Meet_1.f k [a, b]).bind some) (fun k => rfl) (Ev.bind h1 (Ev.now _))
  · rw [h3, cnt_pos, cnt_pos]
theorem minus_spec (a b : List S33) (ha : small a) (hb : small b) : ∃ r, Ev (fun k => span_Minus.f k a b) r ∧ NF r ∧ (∀ n, mem r n = (mem a n && !mem b n)) ∧ r.length ≤ 2 * a.length + 2 * b.length := by
  obtain ⟨r, h1, h2, h3, h4⟩ := combine_spec span_Minus_1.f (fun x y => decide (x > 0) && (y == 0)) (fun x y _ _ _ _ => by unfold span_Minus_1.f; by_cases h : x > 0 <;> simp [h]) (by decide) a b ha hb
  refine ⟨r, ?_, h2, fun n => ?_, h4⟩
  · exact Ev.congr (f := fun k => (span_combine.f span_Minus_1.f k [a, b]).bind some) (fun k => rfl) (Ev.bind h1 (Ev.now _))
  · rw [h3, cnt_pos, cnt_zero]
theorem normal_spec (a : List S33) (ha : small a) : ∃ r, Ev (fun k => span_Normal.f k a) r ∧ NF r ∧ (∀ n, mem r n = mem a n) ∧ r.length ≤ 2 * a.length := by
  obtain ⟨r, h1, h2, h3, h4⟩ := union_spec a [] ha (by simp [small])
  refine ⟨r, Ev.congr (f := fun k => (span_Union.f k a []).bind some) (fun k => rfl) (Ev.bind h1 (Ev.now _)), h2, fun n => ?_, by simpa using h4⟩
  rw [h3]
  simp [mem]
theorem has_spec (l : List S33) (n : Int) (hl : small l) : span_Has.f l n = some (mem l n) := by
  unfold span_Has.f
  rw [if_pos (by unfold small at hl; omega)]
  rfl
def size (l : List S33) : Int := (l.map fun s => s.f1 - s.f0).sum
theorem nf_size {l : List S33} (h : NF l) (lo : Int) (hlo : ∀ s ∈ l, lo ≤ s.f0) (hlo2 : lo ≤ 1152921504606846976) : 0 ≤ size l ∧ size l ≤ 1152921504606846976 - lo := by
  induction l generalizing lo with
  | nil => simp [size]; omega
  | cons s l ih =>
    have hp := (isP_iff s).1 (h.2 s List.mem_cons_self)
    have h0 := hlo s List.mem_cons_self
    have := ih (nf_tail h) s.f1 (fun t ht => by have := (List.pairwise_cons.1 h.1).1 t ht; omega) (by omega)
    simp only [size, List.map_cons, List.sum_cons] at this ⊢
    omega
theorem nf_low {l : List S33} (h : NF l) : ∀ s ∈ l, -1152921504606846976 ≤ s.f0 := fun s hs => ((isP_iff s).1 (h.2 s hs)).1
theorem nf_size' {l : List S33} (h : NF l) : 0 ≤ size l ∧ size l ≤ 2305843009213693952 := by
  have := nf_size h (-1152921504606846976) (nf_low h) (by omega)
  omega
theorem size_drop (l : List S33) (i : Nat) (h : i < l.length) : size (l.drop i) = l[i].f1 - l[i].f0 + size (l.drop (i + 1)) := by
  rw [List.drop_eq_getElem_cons h]
  unfold size
  rw [List.map_cons, List.sum_cons]
theorem nf_drop {l : List S33} (h : NF l) (i : Nat) : NF (l.drop i) := ⟨h.1.sublist (List.drop_sublist _ _), fun s hs => h.2 s (List.mem_of_mem_drop hs)⟩
theorem size_loop (r : List S33) (hr : NF r) (hl : r.length ≤ 100000000) : ∀ (d i : Nat) (x : Int), i ≤ r.length → r.length - i = d → x + size (r.drop i) ≤ 2305843009213693952 → 0 ≤ x → Ev (fun k => span_Size.l0 k x r (r.length : Int) (i : Int)) (x + size (r.drop i)) := by
  intro d
  induction d with
  | zero =>
    intro i x h1 h2 h3 h4
    refine Ev.step (f := fun _ => some x) (fun k => ?_) ?_
    · simp only [span_Size.l0]
      rw [if_neg (by omega)]
    · rw [List.drop_eq_nil_of_le (by omega)]
      have : x + size [] = x := by simp [size]
      rw [this]
      exact Ev.now _
  | succ d ih =>
    intro i x h1 h2 h3 h4
    have hi : i < r.length := by omega
    have w1 : wrap64 ((i : Int) + 1) = ((i + 1 : Nat) : Int) := by unfold wrap64; omega
    have hs := size_drop r i hi
    have hp := (isP_iff r[i]).1 (hr.2 _ (List.getElem_mem hi))
    have hn := nf_size' (nf_drop hr (i + 1))
    have w2 : wrap64 (x + wrap64 (r[i].f1 - r[i].f0)) = x + (r[i].f1 - r[i].f0) := by unfold wrap64; omega
    have e : x + size (r.drop i) = (x + (r[i].f1 - r[i].f0)) + size (r.drop (i + 1)) := by omega
    rw [e]
    refine Ev.step (fun k => ?_) (ih (i + 1) (x + (r[i].f1 - r[i].f0)) (by omega) (by omega) (by omega) (by omega))
    simp only [span_Size.l0, rd_S r i hi, w1, w2]
    rw [if_pos (by omega), if_pos (by omega), if_pos (by omega)]
theorem size_spec (a r : List S33) (ha : small a) (hr : NF r) (h : ∀ n, mem r n = mem a n) : Ev (fun k => span_Size.f k a) (size r) := by
  obtain ⟨r2, h1, h2, h3, h4⟩ := normal_spec a ha
  obtain rfl : r2 = r := nf_unique _ _ h2 hr (fun n => by rw [h3, h])
  refine Ev.bind (f := fun k t => span_Size.l0 k 0 t (t.length : Int) 0) h1 ?_
  have hz := nf_size' hr
  have := size_loop r2 hr (by unfold small at ha; omega) (r2.length - 0) 0 0 (Nat.zero_le _) rfl (by rw [List.drop_zero]; omega) (Int.le_refl _)
  rw [List.drop_zero, Int.zero_add] at this
  exact this
theorem equal_loop (a b : List S33) (h : a.length = b.length) (hl : a.length ≤ 100000000) : ∀ (d i : Nat), i ≤ a.length → a.length - i = d → Ev (fun k => api_Span__span_Valid_1.l0 k b a (a.length : Int) (i : Int)) (decide (a.drop i = b.drop i)) := by
  intro d
  induction d with
  | zero =>
    intro i h1 h2
    refine Ev.step (f := fun _ => some true) (fun k => ?_) ?_
    · simp only [api_Span__span_Valid_1.l0]
      rw [if_neg (by omega)]
    · rw [List.drop_eq_nil_of_le (by omega), List.drop_eq_nil_of_le (by omega)]
      exact Ev.now _
  | succ d ih =>
    intro i h1 h2
    have hi : i < a.length := by omega
    have hj : i < b.length := by omega
    have w1 : wrap64 ((i : Int) + 1) = ((i + 1 : Nat) : Int) := by unfold wrap64; omega
    have e1 := rd_S a i hi
    have e2 := rd_S b i hj
    have hd : decide (a.drop i = b.drop i) = ((a[i].f0 == b[i].f0 && (a[i].f1 == b[i].f1)) && decide (a.drop (i + 1) = b.drop (i + 1))) := by
      rw [List.drop_eq_getElem_cons hi, List.drop_eq_getElem_cons hj, Bool.eq_iff_iff]
      simp only [List.cons.injEq, Bool.and_eq_true, decide_eq_true_eq, beq_iff_eq]
      constructor
      · rintro ⟨h1, h2⟩
        rw [h1]
        exact ⟨⟨rfl, rfl⟩, h2⟩
      · rintro ⟨⟨h1, h2⟩, h3⟩
        refine ⟨?_, h3⟩
        cases ha : a[i]; cases hb : b[i]
        rw [ha, hb] at h1 h2
        simp at h1 h2
        simp [h1, h2]
    rw [hd]
    by_cases hc : (a[i].f0 == b[i].f0 && (a[i].f1 == b[i].f1)) = true
    · rw [hc, Bool.true_and]
      refine Ev.step (fun k => ?_) (ih (i + 1) (by omega) (by omega))
      simp only [api_Span__span_Valid_1.l0, e1, e2, w1, span_Valid_1.f]
      rw [if_pos (by omega), if_pos (by omega), if_pos (by omega), if_pos (by omega)]
      simp only [Option.bind_some]
      rw [if_pos hc]
    · have hc0 : (a[i].f0 == b[i].f0 && (a[i].f1 == b[i].f1)) = false := by simpa using hc
      rw [hc0, Bool.false_and]
      refine Ev.step (f := fun _ => some false) (fun k => ?_) (Ev.now _)
      simp only [api_Span__span_Valid_1.l0, e1, e2, w1, span_Valid_1.f]
      rw [if_pos (by omega), if_pos (by omega), if_pos (by omega), if_pos (by omega)]
      simp only [Option.bind_some]
      rw [if_neg hc]
theorem valid_spec (a : List S33) (ha : small a) : ∃ r, NF r ∧ (∀ n, mem r n = mem a n) ∧ Ev (fun k => span_Valid.f k a) (decide (r = a)) := by
  obtain ⟨r, h1, h2, h3, h4⟩ := normal_spec a ha
  refine ⟨r, h2, h3, ?_⟩
  have key : Ev (fun k => api_Span__span_Valid_1.f k r a) (decide (r = a)) := by
    by_cases hl : r.length = a.length
    · have := equal_loop r a hl (by unfold small at ha; omega) (r.length - 0) 0 (Nat.zero_le _) rfl
      rw [List.drop_zero, List.drop_zero] at this
      refine Ev.congr (fun k => ?_) this
      unfold api_Span__span_Valid_1.f
      rw [if_pos (by omega)]
      rfl
    · rw [decide_eq_false (fun h => hl (by rw [h]))]
      refine Ev.congr (f := fun _ => some false) (fun k => ?_) (Ev.now _)
      unfold api_Span__span_Valid_1.f
      rw [if_neg (by omega)]
  refine Ev.congr (f := fun k => (span_Normal.f k a).bind fun t => (api_Span__span_Valid_1.f k t a).bind some) (fun k => rfl) (Ev.bind (f := fun k t => (api_Span__span_Valid_1.f k t a).bind some) h1 (Ev.bind key (Ev.now _)))
theorem same_loop (a b : List S33) (h : a.length = b.length) (hl : a.length ≤ 100000000) : ∀ (d i : Nat), i ≤ a.length → a.length - i = d → Ev (fun k => wageofficeref04_Same.l0 k a b (i : Int)) (decide (a.drop i = b.drop i)) := by
  intro d
  induction d with
  | zero =>
    intro i h1 h2
    refine Ev.step (f := fun _ => some true) (fun k => ?_) ?_
    · simp only [wageofficeref04_Same.l0]
      rw [if_neg (by omega)]
    · rw [List.drop_eq_nil_of_le (by omega), List.drop_eq_nil_of_le (by omega)]
      exact Ev.now _
  | succ d ih =>
    intro i h1 h2
    have hi : i < a.length := by omega
    have hj : i < b.length := by omega
    have w1 : wrap64 ((i : Int) + 1) = ((i + 1 : Nat) : Int) := by unfold wrap64; omega
    have e1 := rd_S a i hi
    have e2 := rd_S b i hj
    have hd : decide (a.drop i = b.drop i) = (!(!(a[i].f0 == b[i].f0) || !(a[i].f1 == b[i].f1)) && decide (a.drop (i + 1) = b.drop (i + 1))) := by
      rw [List.drop_eq_getElem_cons hi, List.drop_eq_getElem_cons hj, Bool.eq_iff_iff]
      simp only [List.cons.injEq, Bool.and_eq_true, decide_eq_true_eq, Bool.not_or, Bool.not_not, beq_iff_eq]
      constructor
      · rintro ⟨h1, h2⟩
        rw [h1]
        exact ⟨⟨rfl, rfl⟩, h2⟩
      · rintro ⟨⟨h1, h2⟩, h3⟩
        refine ⟨?_, h3⟩
        cases ha : a[i]; cases hb : b[i]
        rw [ha, hb] at h1 h2
        simp at h1 h2
        simp [h1, h2]
    rw [hd]
    by_cases hc : (!(a[i].f0 == b[i].f0) || !(a[i].f1 == b[i].f1)) = true
    · rw [hc, Bool.not_true, Bool.false_and]
      refine Ev.step (f := fun _ => some false) (fun k => ?_) (Ev.now _)
      simp only [wageofficeref04_Same.l0, e1, e2, w1]
      rw [if_pos (by omega), if_pos (by omega), if_pos (by omega), if_pos hc]
    · have hc0 : (!(a[i].f0 == b[i].f0) || !(a[i].f1 == b[i].f1)) = false := by simpa using hc
      rw [hc0, Bool.not_false, Bool.true_and]
      refine Ev.step (fun k => ?_) (ih (i + 1) (by omega) (by omega))
      simp only [wageofficeref04_Same.l0, e1, e2, w1]
      rw [if_pos (by omega), if_pos (by omega), if_pos (by omega), if_neg hc]
theorem same_spec (a b : List S33) (hl : a.length ≤ 100000000) : Ev (fun k => wageofficeref04_Same.f k a b) (decide (a = b)) := by
  by_cases h : a.length = b.length
  · have := same_loop a b h hl (a.length - 0) 0 (Nat.zero_le _) rfl
    rw [List.drop_zero, List.drop_zero] at this
    refine Ev.congr (fun k => ?_) this
    unfold wageofficeref04_Same.f
    rw [if_pos (by omega)]
    rfl
  · rw [decide_eq_false (fun q => h (by rw [q]))]
    refine Ev.congr (f := fun _ => some false) (fun k => ?_) (Ev.now _)
    unfold wageofficeref04_Same.f
    rw [if_neg (by omega)]
end Go.Proofs.Ytgplnfhpeeifjaa.Q
