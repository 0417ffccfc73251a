/- OrdersMatchesReference returns true for every list of orders, order, person, month and day: whatever its arguments read as, there is no condition.
   The walk of the law's code and its plain law (merged by wip/tools/trim.py out of own texts and of texts that the kit's printer wrote). -/
import Derived.Test.YtgbcihbnaecejaaCMat4
namespace Go.Proofs.Ytgbcihbnaecejaa.Q
open Go.RowKit Go.Proofs.YtgbcihbnaecejaaW.PrintWords Go.Proofs.YtgbcihbnaecejaaW.PrintLast Go.Proofs.YtgbcihbnaecejaaW.PrintMore
attribute [local go_sem] max2_int min2_int max_two min_two max_three min_three max_four min_four   -- for this text's walks alone
set_option linter.unusedVariables false
set_option linter.unusedSimpArgs false
mutual
def wageofficeref31_Open.l0 : Nat → List (S24) → ByteArray → Int → Int → List (S24) → Int → Option ((List (S24)))
  | 0, _, _, _, _, _, _ => none
  | k + 1, x0, x1, x2, x3, x9, x10 => if x10 < (x0.length : Int) then (if 0 ≤ x10 then (if ((rd_T24 x0 x10).f1).toList = x1.toList then (if ((rd_T24 x0 x10).f4) > x3 then (wageofficeref31_Open.j1 k x0 x1 x2 x3 x9 x10 true ((rd_T24 x0 x10).f0) ((rd_T24 x0 x10).f1) ((rd_T24 x0 x10).f2) ((rd_T24 x0 x10).f3) ((rd_T24 x0 x10).f4) ((rd_T24 x0 x10).f5) ((rd_T24 x0 x10).f6) ((rd_T24 x0 x10).f7)) else (if ((rd_T24 x0 x10).f5) > x2 then (wageofficeref31_Open.j1 k x0 x1 x2 x3 x9 x10 true ((rd_T24 x0 x10).f0) ((rd_T24 x0 x10).f1) ((rd_T24 x0 x10).f2) ((rd_T24 x0 x10).f3) ((rd_T24 x0 x10).f4) ((rd_T24 x0 x10).f5) ((rd_T24 x0 x10).f6) ((rd_T24 x0 x10).f7)) else (wageofficeref31_Open.j1 k x0 x1 x2 x3 x9 x10 (((rd_T24 x0 x10).f6) == 0) ((rd_T24 x0 x10).f0) ((rd_T24 x0 x10).f1) ((rd_T24 x0 x10).f2) ((rd_T24 x0 x10).f3) ((rd_T24 x0 x10).f4) ((rd_T24 x0 x10).f5) ((rd_T24 x0 x10).f6) ((rd_T24 x0 x10).f7)))) else (wageofficeref31_Open.j1 k x0 x1 x2 x3 x9 x10 true ((rd_T24 x0 x10).f0) ((rd_T24 x0 x10).f1) ((rd_T24 x0 x10).f2) ((rd_T24 x0 x10).f3) ((rd_T24 x0 x10).f4) ((rd_T24 x0 x10).f5) ((rd_T24 x0 x10).f6) ((rd_T24 x0 x10).f7))) else (none)) else (some x9)
def wageofficeref31_Open.j1 : Nat → List (S24) → ByteArray → Int → Int → List (S24) → Int → Bool → Int → ByteArray → ByteArray → Int → Int → Int → Int → Bool → Option ((List (S24)))
  | 0, _, _, _, _, _, _, _, _, _, _, _, _, _, _, _ => none
  | k + 1, x0, x1, x2, x3, x9, x10, x49, x142000, x142001, x142002, x142003, x142004, x142005, x142006, x142007 => if x49 = true then (wageofficeref31_Open.l0 k x0 x1 x2 x3 x9 (wrap64 (x10 + 1))) else (wageofficeref31_Open.l1 k x0 x1 x2 x3 x9 x10 true (wrap64 (x10 + 1)) x142000 x142001 x142002 x142003 x142004 x142005 x142006 x142007)
def wageofficeref31_Open.j3 : Nat → List (S24) → ByteArray → Int → Int → List (S24) → Int → Bool → Int → ByteArray → ByteArray → Int → Int → Int → Int → Bool → Option ((List (S24)))
  | 0, _, _, _, _, _, _, _, _, _, _, _, _, _, _, _ => none
  | k + 1, x0, x1, x2, x3, x9, x10, x12, x142000, x142001, x142002, x142003, x142004, x142005, x142006, x142007 => if x12 = true then (wageofficeref31_Open.l2 k x0 x1 x2 x3 x9 x10 0 x142000 x142001 x142002 x142003 x142004 x142005 x142006 x142007) else (wageofficeref31_Open.l0 k x0 x1 x2 x3 x9 (wrap64 (x10 + 1)))
def wageofficeref31_Open.l2 : Nat → List (S24) → ByteArray → Int → Int → List (S24) → Int → Int → Int → ByteArray → ByteArray → Int → Int → Int → Int → Bool → Option ((List (S24)))
  | 0, _, _, _, _, _, _, _, _, _, _, _, _, _, _, _ => none
  | k + 1, x0, x1, x2, x3, x9, x10, x14, x142000, x142001, x142002, x142003, x142004, x142005, x142006, x142007 => if x14 < (x9.length : Int) then (if 0 ≤ x14 then ((wageofficeref31_before.f ((rd_T24 x9 x14).f0) ((rd_T24 x9 x14).f1) ((rd_T24 x9 x14).f2) ((rd_T24 x9 x14).f3) ((rd_T24 x9 x14).f4) ((rd_T24 x9 x14).f5) ((rd_T24 x9 x14).f6) ((rd_T24 x9 x14).f7) x142000 x142001 x142002 x142003 x142004 x142005 x142006 x142007).bind fun t145 => (if t145 = true then (wageofficeref31_Open.l2 k x0 x1 x2 x3 x9 x10 (wrap64 (x14 + 1)) x142000 x142001 x142002 x142003 x142004 x142005 x142006 x142007) else (if x14 ≤ (x9.length : Int) then ((some (x9.take (x14 : Int).toNat : List (S24))).bind fun y146 => (if ([] : List (S24)).length + y146.length < 1759218604441 then ((some (([] : List (S24)) ++ y146 : List (S24))).bind fun y150 => ((some (([(⟨x142000, x142001, x142002, x142003, x142004, x142005, x142006, x142007⟩ : S24)] : List (S24)) : List (S24))).bind fun y153 => (if y150.length + y153.length < 1759218604441 then ((some (y150 ++ y153 : List (S24))).bind fun y156 => ((some (x9.drop (x14 : Int).toNat : List (S24))).bind fun y159 => (if y156.length + y159.length < 1759218604441 then (wageofficeref31_Open.l0 k x0 x1 x2 x3 (y156 ++ y159) (wrap64 (x10 + 1))) else (none)))) else (none)))) else (none))) else (none)))) else (none)) else (if 0 ≤ x14 then (if x14 ≤ (x9.length : Int) then ((some (x9.take (x14 : Int).toNat : List (S24))).bind fun y166 => (if ([] : List (S24)).length + y166.length < 1759218604441 then ((some (([] : List (S24)) ++ y166 : List (S24))).bind fun y170 => ((some (([(⟨x142000, x142001, x142002, x142003, x142004, x142005, x142006, x142007⟩ : S24)] : List (S24)) : List (S24))).bind fun y173 => (if y170.length + y173.length < 1759218604441 then ((some (y170 ++ y173 : List (S24))).bind fun y176 => ((some (x9.drop (x14 : Int).toNat : List (S24))).bind fun y179 => (if y176.length + y179.length < 1759218604441 then (wageofficeref31_Open.l0 k x0 x1 x2 x3 (y176 ++ y179) (wrap64 (x10 + 1))) else (none)))) else (none)))) else (none))) else (none)) else (none))
def wageofficeref31_Open.l1 : Nat → List (S24) → ByteArray → Int → Int → List (S24) → Int → Bool → Int → Int → ByteArray → ByteArray → Int → Int → Int → Int → Bool → Option ((List (S24)))
  | 0, _, _, _, _, _, _, _, _, _, _, _, _, _, _, _, _ => none
  | k + 1, x0, x1, x2, x3, x9, x10, x12, x13, x142000, x142001, x142002, x142003, x142004, x142005, x142006, x142007 => if x13 < (x0.length : Int) then (if 0 ≤ x13 then (if ((rd_T24 x0 x13).f4) ≤ x3 then (if x12 = true then (wageofficeref31_Open.l1 k x0 x1 x2 x3 x9 x10 (((rd_T24 x0 x13).f0) != x142000) (wrap64 (x13 + 1)) x142000 x142001 x142002 x142003 x142004 x142005 x142006 x142007) else (wageofficeref31_Open.l1 k x0 x1 x2 x3 x9 x10 false (wrap64 (x13 + 1)) x142000 x142001 x142002 x142003 x142004 x142005 x142006 x142007)) else (wageofficeref31_Open.j3 k x0 x1 x2 x3 x9 x10 x12 x142000 x142001 x142002 x142003 x142004 x142005 x142006 x142007)) else (none)) else (wageofficeref31_Open.j3 k x0 x1 x2 x3 x9 x10 x12 x142000 x142001 x142002 x142003 x142004 x142005 x142006 x142007)
end
def wageofficeref31_Open.f (k : Nat) (l0 : List (S24)) (a1 : ByteArray) (a2 : Int) (a3 : Int) : Option ((List (S24))) := (wageofficeref31_Valid.f l0).bind fun t139 => (if t139 = true then (wageofficeref31_Open.l0 k l0 a1 a2 a3 ([] : List (S24)) 0) else (some ([] : List (S24))))
theorem wageofficeref31_Open.mono_l : ∀ k, (∀ y0 y1 y2 y3 y4 y5, LeO (wageofficeref31_Open.l0 k y0 y1 y2 y3 y4 y5) (wageofficeref31_Open.l0 (k + 1) y0 y1 y2 y3 y4 y5)) ∧ (∀ y0 y1 y2 y3 y4 y5 y6 y7 y8 y9 y10 y11 y12 y13 y14, LeO (wageofficeref31_Open.j1 k y0 y1 y2 y3 y4 y5 y6 y7 y8 y9 y10 y11 y12 y13 y14) (wageofficeref31_Open.j1 (k + 1) y0 y1 y2 y3 y4 y5 y6 y7 y8 y9 y10 y11 y12 y13 y14)) ∧ (∀ y0 y1 y2 y3 y4 y5 y6 y7 y8 y9 y10 y11 y12 y13 y14, LeO (wageofficeref31_Open.j3 k y0 y1 y2 y3 y4 y5 y6 y7 y8 y9 y10 y11 y12 y13 y14) (wageofficeref31_Open.j3 (k + 1) y0 y1 y2 y3 y4 y5 y6 y7 y8 y9 y10 y11 y12 y13 y14)) ∧ (∀ y0 y1 y2 y3 y4 y5 y6 y7 y8 y9 y10 y11 y12 y13 y14, LeO (wageofficeref31_Open.l2 k y0 y1 y2 y3 y4 y5 y6 y7 y8 y9 y10 y11 y12 y13 y14) (wageofficeref31_Open.l2 (k + 1) y0 y1 y2 y3 y4 y5 y6 y7 y8 y9 y10 y11 y12 y13 y14)) ∧ (∀ y0 y1 y2 y3 y4 y5 y6 y7 y8 y9 y10 y11 y12 y13 y14 y15, LeO (wageofficeref31_Open.l1 k y0 y1 y2 y3 y4 y5 y6 y7 y8 y9 y10 y11 y12 y13 y14 y15) (wageofficeref31_Open.l1 (k + 1) y0 y1 y2 y3 y4 y5 y6 y7 y8 y9 y10 y11 y12 y13 y14 y15))
  | 0 => ⟨fun _ _ _ _ _ _ r h => by simp [wageofficeref31_Open.l0] at h, fun _ _ _ _ _ _ _ _ _ _ _ _ _ _ _ r h => by simp [wageofficeref31_Open.j1] at h, fun _ _ _ _ _ _ _ _ _ _ _ _ _ _ _ r h => by simp [wageofficeref31_Open.j3] at h, fun _ _ _ _ _ _ _ _ _ _ _ _ _ _ _ r h => by simp [wageofficeref31_Open.l2] at h, fun _ _ _ _ _ _ _ _ _ _ _ _ _ _ _ _ r h => by simp [wageofficeref31_Open.l1] at h⟩
  | k + 1 => by
    obtain ⟨ih0, ih1, ih2, ih3, ih4⟩ := wageofficeref31_Open.mono_l k
    refine ⟨?_, ?_, ?_, ?_, ?_⟩
    · intro y0 y1 y2 y3 y4 y5
      unfold wageofficeref31_Open.l0
      repeat' first
      | (with_reducible exact ih0 _ _ _ _ _ _)
      | (with_reducible exact ih1 _ _ _ _ _ _ _ _ _ _ _ _ _ _ _)
      | (with_reducible exact ih2 _ _ _ _ _ _ _ _ _ _ _ _ _ _ _)
      | (with_reducible exact ih3 _ _ _ _ _ _ _ _ _ _ _ _ _ _ _)
      | (with_reducible exact ih4 _ _ _ _ _ _ _ _ _ _ _ _ _ _ _ _)
      | (with_reducible exact LeO.refl _)
      | (with_reducible exact LeO.none _)
      | (with_reducible refine LeO.ite ?_ ?_)
      | (with_reducible refine LeO.bind ?_ (fun _ => ?_))
      | exact ih0 _ _ _ _ _ _
      | exact ih1 _ _ _ _ _ _ _ _ _ _ _ _ _ _ _
      | exact ih2 _ _ _ _ _ _ _ _ _ _ _ _ _ _ _
      | exact ih3 _ _ _ _ _ _ _ _ _ _ _ _ _ _ _
      | exact ih4 _ _ _ _ _ _ _ _ _ _ _ _ _ _ _ _
      | exact LeO.none _
      | refine LeO.ite ?_ ?_
      | refine LeO.bind ?_ (fun _ => ?_)
    · intro y0 y1 y2 y3 y4 y5 y6 y7 y8 y9 y10 y11 y12 y13 y14
      unfold wageofficeref31_Open.j1
      repeat' first
      | (with_reducible exact ih0 _ _ _ _ _ _)
      | (with_reducible exact ih1 _ _ _ _ _ _ _ _ _ _ _ _ _ _ _)
      | (with_reducible exact ih2 _ _ _ _ _ _ _ _ _ _ _ _ _ _ _)
      | (with_reducible exact ih3 _ _ _ _ _ _ _ _ _ _ _ _ _ _ _)
      | (with_reducible exact ih4 _ _ _ _ _ _ _ _ _ _ _ _ _ _ _ _)
      | (with_reducible exact LeO.refl _)
      | (with_reducible exact LeO.none _)
      | (with_reducible refine LeO.ite ?_ ?_)
      | (with_reducible refine LeO.bind ?_ (fun _ => ?_))
      | exact ih0 _ _ _ _ _ _
      | exact ih1 _ _ _ _ _ _ _ _ _ _ _ _ _ _ _
      | exact ih2 _ _ _ _ _ _ _ _ _ _ _ _ _ _ _
      | exact ih3 _ _ _ _ _ _ _ _ _ _ _ _ _ _ _
      | exact ih4 _ _ _ _ _ _ _ _ _ _ _ _ _ _ _ _
      | exact LeO.none _
      | refine LeO.ite ?_ ?_
      | refine LeO.bind ?_ (fun _ => ?_)
    · intro y0 y1 y2 y3 y4 y5 y6 y7 y8 y9 y10 y11 y12 y13 y14
      unfold wageofficeref31_Open.j3
      repeat' first
      | (with_reducible exact ih0 _ _ _ _ _ _)
      | (with_reducible exact ih1 _ _ _ _ _ _ _ _ _ _ _ _ _ _ _)
      | (with_reducible exact ih2 _ _ _ _ _ _ _ _ _ _ _ _ _ _ _)
      | (with_reducible exact ih3 _ _ _ _ _ _ _ _ _ _ _ _ _ _ _)
      | (with_reducible exact ih4 _ _ _ _ _ _ _ _ _ _ _ _ _ _ _ _)
      | (with_reducible exact LeO.refl _)
      | (with_reducible exact LeO.none _)
      | (with_reducible refine LeO.ite ?_ ?_)
      | (with_reducible refine LeO.bind ?_ (fun _ => ?_))
      | exact ih0 _ _ _ _ _ _
      | exact ih1 _ _ _ _ _ _ _ _ _ _ _ _ _ _ _
      | exact ih2 _ _ _ _ _ _ _ _ _ _ _ _ _ _ _
      | exact ih3 _ _ _ _ _ _ _ _ _ _ _ _ _ _ _
      | exact ih4 _ _ _ _ _ _ _ _ _ _ _ _ _ _ _ _
      | exact LeO.none _
      | refine LeO.ite ?_ ?_
      | refine LeO.bind ?_ (fun _ => ?_)
    · intro y0 y1 y2 y3 y4 y5 y6 y7 y8 y9 y10 y11 y12 y13 y14
      unfold wageofficeref31_Open.l2
      repeat' first
      | (with_reducible exact ih0 _ _ _ _ _ _)
      | (with_reducible exact ih1 _ _ _ _ _ _ _ _ _ _ _ _ _ _ _)
      | (with_reducible exact ih2 _ _ _ _ _ _ _ _ _ _ _ _ _ _ _)
      | (with_reducible exact ih3 _ _ _ _ _ _ _ _ _ _ _ _ _ _ _)
      | (with_reducible exact ih4 _ _ _ _ _ _ _ _ _ _ _ _ _ _ _ _)
      | (with_reducible exact LeO.refl _)
      | (with_reducible exact LeO.none _)
      | (with_reducible refine LeO.ite ?_ ?_)
      | (with_reducible refine LeO.bind ?_ (fun _ => ?_))
      | exact ih0 _ _ _ _ _ _
      | exact ih1 _ _ _ _ _ _ _ _ _ _ _ _ _ _ _
      | exact ih2 _ _ _ _ _ _ _ _ _ _ _ _ _ _ _
      | exact ih3 _ _ _ _ _ _ _ _ _ _ _ _ _ _ _
      | exact ih4 _ _ _ _ _ _ _ _ _ _ _ _ _ _ _ _
      | exact LeO.none _
      | refine LeO.ite ?_ ?_
      | refine LeO.bind ?_ (fun _ => ?_)
    · intro y0 y1 y2 y3 y4 y5 y6 y7 y8 y9 y10 y11 y12 y13 y14 y15
      unfold wageofficeref31_Open.l1
      repeat' first
      | (with_reducible exact ih0 _ _ _ _ _ _)
      | (with_reducible exact ih1 _ _ _ _ _ _ _ _ _ _ _ _ _ _ _)
      | (with_reducible exact ih2 _ _ _ _ _ _ _ _ _ _ _ _ _ _ _)
      | (with_reducible exact ih3 _ _ _ _ _ _ _ _ _ _ _ _ _ _ _)
      | (with_reducible exact ih4 _ _ _ _ _ _ _ _ _ _ _ _ _ _ _ _)
      | (with_reducible exact LeO.refl _)
      | (with_reducible exact LeO.none _)
      | (with_reducible refine LeO.ite ?_ ?_)
      | (with_reducible refine LeO.bind ?_ (fun _ => ?_))
      | exact ih0 _ _ _ _ _ _
      | exact ih1 _ _ _ _ _ _ _ _ _ _ _ _ _ _ _
      | exact ih2 _ _ _ _ _ _ _ _ _ _ _ _ _ _ _
      | exact ih3 _ _ _ _ _ _ _ _ _ _ _ _ _ _ _
      | exact ih4 _ _ _ _ _ _ _ _ _ _ _ _ _ _ _ _
      | exact LeO.none _
      | refine LeO.ite ?_ ?_
      | refine LeO.bind ?_ (fun _ => ?_)
theorem wageofficeref31_Open.mono : ∀ a0 a1 a2 a3 k, LeO (wageofficeref31_Open.f k a0 a1 a2 a3) (wageofficeref31_Open.f (k + 1) a0 a1 a2 a3) := by
  intro a0 a1 a2 a3 k
  obtain ⟨ih0, ih1, ih2, ih3, ih4⟩ := wageofficeref31_Open.mono_l k
  unfold wageofficeref31_Open.f
  repeat' first
      | (with_reducible exact ih0 _ _ _ _ _ _)
      | (with_reducible exact ih1 _ _ _ _ _ _ _ _ _ _ _ _ _ _ _)
      | (with_reducible exact ih2 _ _ _ _ _ _ _ _ _ _ _ _ _ _ _)
      | (with_reducible exact ih3 _ _ _ _ _ _ _ _ _ _ _ _ _ _ _)
      | (with_reducible exact ih4 _ _ _ _ _ _ _ _ _ _ _ _ _ _ _ _)
      | (with_reducible exact LeO.refl _)
      | (with_reducible exact LeO.none _)
      | (with_reducible refine LeO.ite ?_ ?_)
      | (with_reducible refine LeO.bind ?_ (fun _ => ?_))
      | exact ih0 _ _ _ _ _ _
      | exact ih1 _ _ _ _ _ _ _ _ _ _ _ _ _ _ _
      | exact ih2 _ _ _ _ _ _ _ _ _ _ _ _ _ _ _
      | exact ih3 _ _ _ _ _ _ _ _ _ _ _ _ _ _ _
      | exact ih4 _ _ _ _ _ _ _ _ _ _ _ _ _ _ _ _
      | exact LeO.none _
      | refine LeO.ite ?_ ?_
      | refine LeO.bind ?_ (fun _ => ?_)
def wageofficeref31_Open.T13 : Bool × List (List Nat × List Nat) := (true, [([], []), ([0], [0]), ([1], [1]), ([1], [1]), ([2, 3, 1], [1, 2, 3]), ([4, 1], [1, 4]), ([5, 1], [1, 5]), ([1], [1]), ([7, 1], [1, 7]), ([6, 8, 1], [1, 6, 8]), ([1, 9], [1, 9]), ([10, 1, 0, 1, 2, 3, 4, 5, 6, 7, 8, 9, 10], [0, 10])])
def wageofficeref31_Open.B13 : List Nat := [0, 1, 3, 3, 15, 31, 63, 3, 131, 511, 1023, 2047]
theorem wageofficeref31_Open.tab13 : rtab .any (opsOf Try.f18 13) = wageofficeref31_Open.T13 := by kernel_rfl
theorem wageofficeref31_Open.bits13 : waitsOk wageofficeref31_Open.T13.2 wageofficeref31_Open.B13 = true := by kernel_rfl
def wageofficeref31_Open.T16 : Bool × List (List Nat × List Nat) := (true, [([], []), ([], []), ([1], [1]), ([0, 2], [0, 2]), ([3], [3]), ([4], [4]), ([4], [4]), ([5, 6, 4], [4, 5, 6]), ([7, 4], [4, 7]), ([4], [4]), ([8, 9, 4, 4], [4, 8, 9]), ([4, 10], [4, 10])])
def wageofficeref31_Open.B16 : List Nat := [0, 0, 2, 7, 15, 31, 31, 127, 255, 31, 1023, 2047]
theorem wageofficeref31_Open.tab16 : rtab .any (opsOf Try.f18 16) = wageofficeref31_Open.T16 := by kernel_rfl
theorem wageofficeref31_Open.bits16 : waitsOk wageofficeref31_Open.T16.2 wageofficeref31_Open.B16 = true := by kernel_rfl
def wageofficeref31_Open.T19 : Bool × List (List Nat × List Nat) := (true, [([], []), ([], []), ([], []), ([1, 2], [1, 2]), ([0, 3], [0, 3]), ([], []), ([5], [5]), ([4, 6, 4], [4, 6]), ([7, 7, 0, 1, 2, 3, 4, 5, 6, 7], [0, 7])])
def wageofficeref31_Open.B19 : List Nat := [0, 0, 0, 6, 15, 0, 32, 127, 255]
theorem wageofficeref31_Open.tab19 : rtab .any (opsOf Try.f18 19) = wageofficeref31_Open.T19 := by kernel_rfl
theorem wageofficeref31_Open.bits19 : waitsOk wageofficeref31_Open.T19.2 wageofficeref31_Open.B19 = true := by kernel_rfl
set_option maxHeartbeats 8000000 in
set_option maxRecDepth 100000 in
theorem wageofficeref31_Open.calls (k : Nat) (A0 : Option Addr) (c0 : Nat) (l0 : List (S24)) (a1 : ByteArray) (a2 : Int) (a3 : Int) (r : List (S24)) (w : World) (hr0 : Kd.C k24 w A0 l0.length l0) (hc0 : l0.length ≤ c0) (h : wageofficeref31_Open.f k l0 a1 a2 a3 = some r) :
    Calls Try.prog 18 #[.slice A0 l0.length c0, .string a1, .int .i64 a2, .int .i64 a3] w fun e w' => ∃ v0_ : Value, e = .returned (v0_) ∧ Kd.R k24 24 w' w.heap.size (fun _ => True) v0_ r ∧ Below w.heap.size w w' := by
  have hu24 := Try.underlying24
  have HR0 := Aside0.mk hr0
  have HC0 := Aside0.mk hc0
  clear hr0 hc0
  have HB := Aside0.mk (Below.refl w.heap.size w)
  have H : ((wageofficeref31_Valid.f l0).bind fun t139 => (if t139 = true then (wageofficeref31_Open.l0 k l0 a1 a2 a3 ([] : List (S24)) 0) else (some ([] : List (S24))))) = some r := h
  clear h
  replace H := Option.bind_eq_some_iff.mp H
  obtain ⟨t139, A50, H⟩ := H
  replace H : (if t139 = true then (wageofficeref31_Open.l0 k l0 a1 a2 a3 ([] : List (S24)) 0) else (some ([] : List (S24)))) = some r := H
  have A5 := Aside0.mk A50
  clear A50
  by_cases c6 : t139 = true
  · subst c6
    have H1 : (wageofficeref31_Open.l0 k l0 a1 a2 a3 ([] : List (S24)) 0) = some r := by rw [if_pos rfl] at H; exact H
    clear H
    have H := H1
    clear H1
    have H' := Aside0.mk H
    clear H
    go_enter Try.func18, Try.ntmps18
    go_wp2_with (first | ((with_reducible refine gate_callee (f := 15) rfl ?_); refine goesL_ (some 17) rfl rfl Try.func15 (by kernel_rfl) rfl #[.slice A0 l0.length c0] rfl (by (try simp only [List.map_toArray, List.map_cons, List.map_nil]); first | done | rfl | (simp only [List.length_drop, List.length_take]; rfl)) ?_; (with_reducible refine (wageofficeref31_Valid.calls _ _ l0 true _ ?side1 ?side2 A5.out).mono ?_); (case side1 => repeat (first | exact HR0.out | (with_reducible refine Kd.C_alloc ?_ _) | (with_reducible refine Kd.C_drewN ?_ _) | (with_reducible refine Kd.C_drew ?_))); (case side2 => exact HC0.out); rintro e w7 ⟨rfl, hb⟩; refine ⟨_, rfl, ?_⟩; have n0_ := Aside0.mk (below_step (by repeat (first | (with_reducible first | exact HB.out | apply below_alloc | apply pw_below_drewN | apply below_drew1) | exact HB.out)) hb); clear HB; have HB := n0_; clear n0_; (try clear hb); (try clear hb2); (try clear hk); (try clear hi)))
    go_loopg [9, 10] k (fun kq v9 v10 w' => ∃ (x9_1 : List (S24)) (x10_1 : Int), v10 = .int .i64 x10_1 ∧ Aside0 (wageofficeref31_Open.l0 kq l0 a1 a2 a3 x9_1 x10_1 = some r) ∧ Aside0 (kq ≤ k) ∧ Aside0 (Kd.R k24 24 w' w.heap.size (fun _ => True) v9 x9_1) ∧ Aside0 (Below w.heap.size w w'))
    case atStart => exact ⟨(([] : List (S24))), (0), (by first | rfl | (simp; done) | (simp [*]; done)), H', ⟨Nat.le_refl _⟩, ⟨by first | exact Kd.R_nil _ _ _ _ _ | exact Kd.N_nil _ _ _ _ _ | exact Kd.V_nil _ _ _ _ _ | exact Kd.Q_nil _ _ _ _ _ | exact Kd.S_nil _ _ _ _ _⟩, ⟨by repeat (first | (with_reducible first | exact HB.out | apply below_alloc | apply pw_below_drewN | apply below_drew1) | exact HB.out)⟩⟩
    case round =>
      clear H'
      try clear c1
      try clear p2
      try clear c6
      obtain ⟨x9_1, x10_1, rfl, HA, HK1, HO_9, HB⟩ := hrel
      cases gk with
      | zero => exact absurd HA.out (by simp [wageofficeref31_Open.l0])
      | succ k1 =>
        have H := HA.out
        clear HA
        simp only [wageofficeref31_Open.l0] at H
        by_cases c8 : x10_1 < (l0.length : Int)
        · rw [if_pos c8] at H
          have c8b0 : decide (x10_1 < (l0.length : Int)) = true := decide_eq_true c8
          clear c8
          by_cases c9 : 0 ≤ x10_1
          · rw [if_pos c9] at H
            have c9b0 : decide (0 ≤ x10_1) = true := decide_eq_true c9
            clear c9
            have HC10 := Aside0.mk H
            clear H
            have p140 : 0 ≤ (x10_1 : Int) := of_decide_eq_true (by first | (with_reducible assumption) | assumption)
            have q140 : x10_1 < (l0.length : Int) := of_decide_eq_true (by first | (with_reducible assumption) | assumption)
            obtain ⟨ad140, e140, hx140_0, hx140_1, hx140_2, hx140_3, hx140_4, hx140_5, hx140_6, hx140_7⟩ := at_T24 HR0.out x10_1 p140 q140
            cases e140
            replace hx140_0 := (HB.out.cell (World.block_lt_of_cell? w _ hx140_0)).trans hx140_0
            replace hx140_1 := (HB.out.cell (World.block_lt_of_cell? w _ hx140_1)).trans hx140_1
            replace hx140_2 := (HB.out.cell (World.block_lt_of_cell? w _ hx140_2)).trans hx140_2
            replace hx140_3 := (HB.out.cell (World.block_lt_of_cell? w _ hx140_3)).trans hx140_3
            replace hx140_4 := (HB.out.cell (World.block_lt_of_cell? w _ hx140_4)).trans hx140_4
            replace hx140_5 := (HB.out.cell (World.block_lt_of_cell? w _ hx140_5)).trans hx140_5
            replace hx140_6 := (HB.out.cell (World.block_lt_of_cell? w _ hx140_6)).trans hx140_6
            replace hx140_7 := (HB.out.cell (World.block_lt_of_cell? w _ hx140_7)).trans hx140_7
            replace p140 := eq_true p140
            replace q140 := eq_true q140
            go_upto_region 8 with (first | ((with_reducible refine gate_dst (N := 11) rfl ?_); refine box_event ?hg (N := 11) ?hd (cs := #[.int .i64 0, .string (⟨#[]⟩ : ByteArray), .string (⟨#[]⟩ : ByteArray), .int .i64 0, .int .i64 0, .int .i64 0, .int .i64 0, .bool false]) (t := 24) ?hr ?_; (case hd => rfl); (case hg => rfl); (case hr => first | (go_simp; done) | (go_simp; rfl)); intro gb141 hg w11 hbox hb; have n0_ := Aside0.mk (Kd.R_below (Kd.R_elderB (by (with_reducible repeat (first | apply Kd.R_alloc | apply Kd.R_drewN | apply Kd.R_drew)); exact HO_9.out) gb141 (Nat.le_of_eq hg.symm)) hb); have n1_ := Aside0.mk (below_step (by repeat (first | (with_reducible first | exact HB.out | apply below_alloc | apply pw_below_drewN | apply below_drew1) | exact HB.out)) hb); have n2_ := Aside0.mk (hbox); have n3_ := Aside0.mk ((by rw [hg]; exact (below_size (by repeat (first | (with_reducible first | exact HB.out | apply below_alloc | apply pw_below_drewN | apply below_drew1) | exact HB.out))) : w.heap.size ≤ gb141)); have n4_ := Aside0.mk ((by rw [hg]; exact (below_size (by repeat (first | (with_reducible first | exact HB.out | apply below_alloc | apply pw_below_drewN | apply below_drew1) | exact HB.out))) : w.heap.size ≤ gb141)); clear HO_9; clear HB; have HO_9 := n0_; have HB := n1_; have BK141 := n2_; have GW141 := n3_; have GE141 := n4_; clear n0_ n1_ n2_ n3_ n4_; clear hb hbox hg; have hcz12_0 : w11.cell? ⟨gb141, 0, none⟩ = some (.int .i64 0) := (blk_cell BK141.out 0).trans rfl; have hcz12_1 : w11.cell? ⟨gb141, 1, none⟩ = some (.string (⟨#[]⟩ : ByteArray)) := (blk_cell BK141.out 1).trans rfl; have hcz12_2 : w11.cell? ⟨gb141, 2, none⟩ = some (.string (⟨#[]⟩ : ByteArray)) := (blk_cell BK141.out 2).trans rfl; have hcz12_3 : w11.cell? ⟨gb141, 3, none⟩ = some (.int .i64 0) := (blk_cell BK141.out 3).trans rfl; have hcz12_4 : w11.cell? ⟨gb141, 4, none⟩ = some (.int .i64 0) := (blk_cell BK141.out 4).trans rfl; have hcz12_5 : w11.cell? ⟨gb141, 5, none⟩ = some (.int .i64 0) := (blk_cell BK141.out 5).trans rfl; have hcz12_6 : w11.cell? ⟨gb141, 6, none⟩ = some (.int .i64 0) := (blk_cell BK141.out 6).trans rfl; have hcz12_7 : w11.cell? ⟨gb141, 7, none⟩ = some (.bool false) := (blk_cell BK141.out 7).trans rfl; have hfz12_0 := blk_frozen BK141.out 0; have hfz12_1 := blk_frozen BK141.out 1; have hfz12_2 := blk_frozen BK141.out 2; have hfz12_3 := blk_frozen BK141.out 3; have hfz12_4 := blk_frozen BK141.out 4; have hfz12_5 := blk_frozen BK141.out 5; have hfz12_6 := blk_frozen BK141.out 6; have hfz12_7 := blk_frozen BK141.out 7))
            (try simp only [Act.put, List.setIfInBounds_toArray, List.set_cons_zero, List.set_cons_succ])
            go_cut [49] (fun v49 wc => ∃ (kq : Nat) (x49_9 : Bool), v49 = .bool x49_9 ∧ Aside0 (wageofficeref31_Open.j1 kq l0 a1 a2 a3 x9_1 x10_1 x49_9 ((rd_T24 l0 x10_1).f0) ((rd_T24 l0 x10_1).f1) ((rd_T24 l0 x10_1).f2) ((rd_T24 l0 x10_1).f3) ((rd_T24 l0 x10_1).f4) ((rd_T24 l0 x10_1).f5) ((rd_T24 l0 x10_1).f6) ((rd_T24 l0 x10_1).f7) = some r) ∧ Aside0 (kq ≤ k1) ∧ Aside0 (Kd.R k24 24 wc w.heap.size (fun k_ => k_ ≠ gb141) u9 x9_1) ∧ Aside0 (wc.heap[gb141]? = some (.cells #[.int .i64 ((rd_T24 l0 x10_1).f0), .string ((rd_T24 l0 x10_1).f1), .string ((rd_T24 l0 x10_1).f2), .int .i64 ((rd_T24 l0 x10_1).f3), .int .i64 ((rd_T24 l0 x10_1).f4), .int .i64 ((rd_T24 l0 x10_1).f5), .int .i64 ((rd_T24 l0 x10_1).f6), .bool ((rd_T24 l0 x10_1).f7)] 24 (0, 0))) ∧ Aside0 (Below w.heap.size w wc))
            case first =>
              have H := HC10.out
              clear HC10
              by_cases c13 : ((rd_T24 l0 x10_1).f1).toList = a1.toList
              · rw [if_pos c13] at H
                have c13b0 : (((rd_T24 l0 x10_1).f1).toList == a1.toList) = true := beq_iff_eq.mpr c13
                have c13b1 : (((rd_T24 l0 x10_1).f1).toList != a1.toList) = false := bne_eq_false_iff_eq.mpr c13
                clear c13
                (first | rw [c13b0] | (simp only [i64_w, i32_w]; rw [c13b0]) | rw [c13b1] | skip)
                by_cases c14 : ((rd_T24 l0 x10_1).f4) > a3
                · rw [if_pos c14] at H
                  have c14b0 : decide (a3 < ((rd_T24 l0 x10_1).f4)) = true := decide_eq_true c14
                  clear c14
                  have H' := Aside0.mk H
                  clear H
                  have hcz15_0 : w11.cell? ⟨gb141, 0, none⟩ = some (.int .i64 0) := (blk_cell BK141.out 0).trans rfl
                  have hcz15_1 : w11.cell? ⟨gb141, 1, none⟩ = some (.string (⟨#[]⟩ : ByteArray)) := (blk_cell BK141.out 1).trans rfl
                  have hcz15_2 : w11.cell? ⟨gb141, 2, none⟩ = some (.string (⟨#[]⟩ : ByteArray)) := (blk_cell BK141.out 2).trans rfl
                  have hcz15_3 : w11.cell? ⟨gb141, 3, none⟩ = some (.int .i64 0) := (blk_cell BK141.out 3).trans rfl
                  have hcz15_4 : w11.cell? ⟨gb141, 4, none⟩ = some (.int .i64 0) := (blk_cell BK141.out 4).trans rfl
                  have hcz15_5 : w11.cell? ⟨gb141, 5, none⟩ = some (.int .i64 0) := (blk_cell BK141.out 5).trans rfl
                  have hcz15_6 : w11.cell? ⟨gb141, 6, none⟩ = some (.int .i64 0) := (blk_cell BK141.out 6).trans rfl
                  have hcz15_7 : w11.cell? ⟨gb141, 7, none⟩ = some (.bool false) := (blk_cell BK141.out 7).trans rfl
                  have hfz15_0 := blk_frozen BK141.out 0
                  have hfz15_1 := blk_frozen BK141.out 1
                  have hfz15_2 := blk_frozen BK141.out 2
                  have hfz15_3 := blk_frozen BK141.out 3
                  have hfz15_4 := blk_frozen BK141.out 4
                  have hfz15_5 := blk_frozen BK141.out 5
                  have hfz15_6 := blk_frozen BK141.out 6
                  have hfz15_7 := blk_frozen BK141.out 7
                  go_wp2
                  go_meet
                  case rel => exact ⟨_, (true), (by first | rfl | (simp; done) | (simp [*]; done)), H', ⟨by have := HK1.out; first | omega | exact Nat.le_refl _⟩, ⟨by (with_reducible repeat (first | apply Kd.R_alloc | apply Kd.R_drewN | apply Kd.R_drew)); exact Kd.R_mono (Kd.R_far (p := ⟨gb141, 7, none⟩) (Kd.R_far (p := ⟨gb141, 6, none⟩) (Kd.R_far (p := ⟨gb141, 5, none⟩) (Kd.R_far (p := ⟨gb141, 4, none⟩) (Kd.R_far (p := ⟨gb141, 3, none⟩) (Kd.R_far (p := ⟨gb141, 2, none⟩) (Kd.R_far (p := ⟨gb141, 1, none⟩) (Kd.R_far (p := ⟨gb141, 0, none⟩) (Kd.R_mono HO_9.out (fun k_ hk => (⟨hk, hk.2⟩ : _ ∧ k_ ≠ gb141))) (fun _ hk => hk.2) (.int .i64 ((rd_T24 l0 x10_1).f0))) (fun _ hk => hk.2) (.string ((rd_T24 l0 x10_1).f1))) (fun _ hk => hk.2) (.string ((rd_T24 l0 x10_1).f2))) (fun _ hk => hk.2) (.int .i64 ((rd_T24 l0 x10_1).f3))) (fun _ hk => hk.2) (.int .i64 ((rd_T24 l0 x10_1).f4))) (fun _ hk => hk.2) (.int .i64 ((rd_T24 l0 x10_1).f5))) (fun _ hk => hk.2) (.int .i64 ((rd_T24 l0 x10_1).f6))) (fun _ hk => hk.2) (.bool ((rd_T24 l0 x10_1).f7))) (fun _ hk => hk.1.2)⟩, ⟨by (with_reducible repeat (first | refine blk_drewN ?_ _ | refine blk_drew ?_ | refine blk_alloc ?_ _)); refine blk_put (cs := #[.int .i64 ((rd_T24 l0 x10_1).f0), .string ((rd_T24 l0 x10_1).f1), .string ((rd_T24 l0 x10_1).f2), .int .i64 ((rd_T24 l0 x10_1).f3), .int .i64 ((rd_T24 l0 x10_1).f4), .int .i64 ((rd_T24 l0 x10_1).f5), .int .i64 ((rd_T24 l0 x10_1).f6), .bool false]) ?_ 7 _ rfl; (with_reducible repeat (first | refine blk_drewN ?_ _ | refine blk_drew ?_ | refine blk_alloc ?_ _)); refine blk_put (cs := #[.int .i64 ((rd_T24 l0 x10_1).f0), .string ((rd_T24 l0 x10_1).f1), .string ((rd_T24 l0 x10_1).f2), .int .i64 ((rd_T24 l0 x10_1).f3), .int .i64 ((rd_T24 l0 x10_1).f4), .int .i64 ((rd_T24 l0 x10_1).f5), .int .i64 0, .bool false]) ?_ 6 _ rfl; (with_reducible repeat (first | refine blk_drewN ?_ _ | refine blk_drew ?_ | refine blk_alloc ?_ _)); refine blk_put (cs := #[.int .i64 ((rd_T24 l0 x10_1).f0), .string ((rd_T24 l0 x10_1).f1), .string ((rd_T24 l0 x10_1).f2), .int .i64 ((rd_T24 l0 x10_1).f3), .int .i64 ((rd_T24 l0 x10_1).f4), .int .i64 0, .int .i64 0, .bool false]) ?_ 5 _ rfl; (with_reducible repeat (first | refine blk_drewN ?_ _ | refine blk_drew ?_ | refine blk_alloc ?_ _)); refine blk_put (cs := #[.int .i64 ((rd_T24 l0 x10_1).f0), .string ((rd_T24 l0 x10_1).f1), .string ((rd_T24 l0 x10_1).f2), .int .i64 ((rd_T24 l0 x10_1).f3), .int .i64 0, .int .i64 0, .int .i64 0, .bool false]) ?_ 4 _ rfl; (with_reducible repeat (first | refine blk_drewN ?_ _ | refine blk_drew ?_ | refine blk_alloc ?_ _)); refine blk_put (cs := #[.int .i64 ((rd_T24 l0 x10_1).f0), .string ((rd_T24 l0 x10_1).f1), .string ((rd_T24 l0 x10_1).f2), .int .i64 0, .int .i64 0, .int .i64 0, .int .i64 0, .bool false]) ?_ 3 _ rfl; (with_reducible repeat (first | refine blk_drewN ?_ _ | refine blk_drew ?_ | refine blk_alloc ?_ _)); refine blk_put (cs := #[.int .i64 ((rd_T24 l0 x10_1).f0), .string ((rd_T24 l0 x10_1).f1), .string (⟨#[]⟩ : ByteArray), .int .i64 0, .int .i64 0, .int .i64 0, .int .i64 0, .bool false]) ?_ 2 _ rfl; (with_reducible repeat (first | refine blk_drewN ?_ _ | refine blk_drew ?_ | refine blk_alloc ?_ _)); refine blk_put (cs := #[.int .i64 ((rd_T24 l0 x10_1).f0), .string (⟨#[]⟩ : ByteArray), .string (⟨#[]⟩ : ByteArray), .int .i64 0, .int .i64 0, .int .i64 0, .int .i64 0, .bool false]) ?_ 1 _ rfl; (with_reducible repeat (first | refine blk_drewN ?_ _ | refine blk_drew ?_ | refine blk_alloc ?_ _)); refine blk_put (cs := #[.int .i64 0, .string (⟨#[]⟩ : ByteArray), .string (⟨#[]⟩ : ByteArray), .int .i64 0, .int .i64 0, .int .i64 0, .int .i64 0, .bool false]) ?_ 0 _ rfl; (with_reducible repeat (first | refine blk_drewN ?_ _ | refine blk_drew ?_ | refine blk_alloc ?_ _)); exact BK141.out⟩, ⟨by repeat (first | (with_reducible first | exact HB.out | apply below_alloc | apply pw_below_drewN | apply below_drew1 | refine below_set ?_ GE141.out) | exact HB.out)⟩⟩
                · rw [if_neg c14] at H
                  have c14b0 : decide (a3 < ((rd_T24 l0 x10_1).f4)) = false := decide_eq_false c14
                  clear c14
                  by_cases c16 : ((rd_T24 l0 x10_1).f5) > a2
                  · rw [if_pos c16] at H
                    have c16b0 : decide (a2 < ((rd_T24 l0 x10_1).f5)) = true := decide_eq_true c16
                    clear c16
                    have H' := Aside0.mk H
                    clear H
                    have hcz17_0 : w11.cell? ⟨gb141, 0, none⟩ = some (.int .i64 0) := (blk_cell BK141.out 0).trans rfl
                    have hcz17_1 : w11.cell? ⟨gb141, 1, none⟩ = some (.string (⟨#[]⟩ : ByteArray)) := (blk_cell BK141.out 1).trans rfl
                    have hcz17_2 : w11.cell? ⟨gb141, 2, none⟩ = some (.string (⟨#[]⟩ : ByteArray)) := (blk_cell BK141.out 2).trans rfl
                    have hcz17_3 : w11.cell? ⟨gb141, 3, none⟩ = some (.int .i64 0) := (blk_cell BK141.out 3).trans rfl
                    have hcz17_4 : w11.cell? ⟨gb141, 4, none⟩ = some (.int .i64 0) := (blk_cell BK141.out 4).trans rfl
                    have hcz17_5 : w11.cell? ⟨gb141, 5, none⟩ = some (.int .i64 0) := (blk_cell BK141.out 5).trans rfl
                    have hcz17_6 : w11.cell? ⟨gb141, 6, none⟩ = some (.int .i64 0) := (blk_cell BK141.out 6).trans rfl
                    have hcz17_7 : w11.cell? ⟨gb141, 7, none⟩ = some (.bool false) := (blk_cell BK141.out 7).trans rfl
                    have hfz17_0 := blk_frozen BK141.out 0
                    have hfz17_1 := blk_frozen BK141.out 1
                    have hfz17_2 := blk_frozen BK141.out 2
                    have hfz17_3 := blk_frozen BK141.out 3
                    have hfz17_4 := blk_frozen BK141.out 4
                    have hfz17_5 := blk_frozen BK141.out 5
                    have hfz17_6 := blk_frozen BK141.out 6
                    have hfz17_7 := blk_frozen BK141.out 7
                    go_wp2
                    go_meet
                    case rel => exact ⟨_, (true), (by first | rfl | (simp; done) | (simp [*]; done)), H', ⟨by have := HK1.out; first | omega | exact Nat.le_refl _⟩, ⟨by (with_reducible repeat (first | apply Kd.R_alloc | apply Kd.R_drewN | apply Kd.R_drew)); exact Kd.R_mono (Kd.R_far (p := ⟨gb141, 7, none⟩) (Kd.R_far (p := ⟨gb141, 6, none⟩) (Kd.R_far (p := ⟨gb141, 5, none⟩) (Kd.R_far (p := ⟨gb141, 4, none⟩) (Kd.R_far (p := ⟨gb141, 3, none⟩) (Kd.R_far (p := ⟨gb141, 2, none⟩) (Kd.R_far (p := ⟨gb141, 1, none⟩) (Kd.R_far (p := ⟨gb141, 0, none⟩) (Kd.R_mono HO_9.out (fun k_ hk => (⟨hk, hk.2⟩ : _ ∧ k_ ≠ gb141))) (fun _ hk => hk.2) (.int .i64 ((rd_T24 l0 x10_1).f0))) (fun _ hk => hk.2) (.string ((rd_T24 l0 x10_1).f1))) (fun _ hk => hk.2) (.string ((rd_T24 l0 x10_1).f2))) (fun _ hk => hk.2) (.int .i64 ((rd_T24 l0 x10_1).f3))) (fun _ hk => hk.2) (.int .i64 ((rd_T24 l0 x10_1).f4))) (fun _ hk => hk.2) (.int .i64 ((rd_T24 l0 x10_1).f5))) (fun _ hk => hk.2) (.int .i64 ((rd_T24 l0 x10_1).f6))) (fun _ hk => hk.2) (.bool ((rd_T24 l0 x10_1).f7))) (fun _ hk => hk.1.2)⟩, ⟨by (with_reducible repeat (first | refine blk_drewN ?_ _ | refine blk_drew ?_ | refine blk_alloc ?_ _)); refine blk_put (cs := #[.int .i64 ((rd_T24 l0 x10_1).f0), .string ((rd_T24 l0 x10_1).f1), .string ((rd_T24 l0 x10_1).f2), .int .i64 ((rd_T24 l0 x10_1).f3), .int .i64 ((rd_T24 l0 x10_1).f4), .int .i64 ((rd_T24 l0 x10_1).f5), .int .i64 ((rd_T24 l0 x10_1).f6), .bool false]) ?_ 7 _ rfl; (with_reducible repeat (first | refine blk_drewN ?_ _ | refine blk_drew ?_ | refine blk_alloc ?_ _)); refine blk_put (cs := #[.int .i64 ((rd_T24 l0 x10_1).f0), .string ((rd_T24 l0 x10_1).f1), .string ((rd_T24 l0 x10_1).f2), .int .i64 ((rd_T24 l0 x10_1).f3), .int .i64 ((rd_T24 l0 x10_1).f4), .int .i64 ((rd_T24 l0 x10_1).f5), .int .i64 0, .bool false]) ?_ 6 _ rfl; (with_reducible repeat (first | refine blk_drewN ?_ _ | refine blk_drew ?_ | refine blk_alloc ?_ _)); refine blk_put (cs := #[.int .i64 ((rd_T24 l0 x10_1).f0), .string ((rd_T24 l0 x10_1).f1), .string ((rd_T24 l0 x10_1).f2), .int .i64 ((rd_T24 l0 x10_1).f3), .int .i64 ((rd_T24 l0 x10_1).f4), .int .i64 0, .int .i64 0, .bool false]) ?_ 5 _ rfl; (with_reducible repeat (first | refine blk_drewN ?_ _ | refine blk_drew ?_ | refine blk_alloc ?_ _)); refine blk_put (cs := #[.int .i64 ((rd_T24 l0 x10_1).f0), .string ((rd_T24 l0 x10_1).f1), .string ((rd_T24 l0 x10_1).f2), .int .i64 ((rd_T24 l0 x10_1).f3), .int .i64 0, .int .i64 0, .int .i64 0, .bool false]) ?_ 4 _ rfl; (with_reducible repeat (first | refine blk_drewN ?_ _ | refine blk_drew ?_ | refine blk_alloc ?_ _)); refine blk_put (cs := #[.int .i64 ((rd_T24 l0 x10_1).f0), .string ((rd_T24 l0 x10_1).f1), .string ((rd_T24 l0 x10_1).f2), .int .i64 0, .int .i64 0, .int .i64 0, .int .i64 0, .bool false]) ?_ 3 _ rfl; (with_reducible repeat (first | refine blk_drewN ?_ _ | refine blk_drew ?_ | refine blk_alloc ?_ _)); refine blk_put (cs := #[.int .i64 ((rd_T24 l0 x10_1).f0), .string ((rd_T24 l0 x10_1).f1), .string (⟨#[]⟩ : ByteArray), .int .i64 0, .int .i64 0, .int .i64 0, .int .i64 0, .bool false]) ?_ 2 _ rfl; (with_reducible repeat (first | refine blk_drewN ?_ _ | refine blk_drew ?_ | refine blk_alloc ?_ _)); refine blk_put (cs := #[.int .i64 ((rd_T24 l0 x10_1).f0), .string (⟨#[]⟩ : ByteArray), .string (⟨#[]⟩ : ByteArray), .int .i64 0, .int .i64 0, .int .i64 0, .int .i64 0, .bool false]) ?_ 1 _ rfl; (with_reducible repeat (first | refine blk_drewN ?_ _ | refine blk_drew ?_ | refine blk_alloc ?_ _)); refine blk_put (cs := #[.int .i64 0, .string (⟨#[]⟩ : ByteArray), .string (⟨#[]⟩ : ByteArray), .int .i64 0, .int .i64 0, .int .i64 0, .int .i64 0, .bool false]) ?_ 0 _ rfl; (with_reducible repeat (first | refine blk_drewN ?_ _ | refine blk_drew ?_ | refine blk_alloc ?_ _)); exact BK141.out⟩, ⟨by repeat (first | (with_reducible first | exact HB.out | apply below_alloc | apply pw_below_drewN | apply below_drew1 | refine below_set ?_ GE141.out) | exact HB.out)⟩⟩
                  · rw [if_neg c16] at H
                    have c16b0 : decide (a2 < ((rd_T24 l0 x10_1).f5)) = false := decide_eq_false c16
                    clear c16
                    have H' := Aside0.mk H
                    clear H
                    have hcz18_0 : w11.cell? ⟨gb141, 0, none⟩ = some (.int .i64 0) := (blk_cell BK141.out 0).trans rfl
                    have hcz18_1 : w11.cell? ⟨gb141, 1, none⟩ = some (.string (⟨#[]⟩ : ByteArray)) := (blk_cell BK141.out 1).trans rfl
                    have hcz18_2 : w11.cell? ⟨gb141, 2, none⟩ = some (.string (⟨#[]⟩ : ByteArray)) := (blk_cell BK141.out 2).trans rfl
                    have hcz18_3 : w11.cell? ⟨gb141, 3, none⟩ = some (.int .i64 0) := (blk_cell BK141.out 3).trans rfl
                    have hcz18_4 : w11.cell? ⟨gb141, 4, none⟩ = some (.int .i64 0) := (blk_cell BK141.out 4).trans rfl
                    have hcz18_5 : w11.cell? ⟨gb141, 5, none⟩ = some (.int .i64 0) := (blk_cell BK141.out 5).trans rfl
                    have hcz18_6 : w11.cell? ⟨gb141, 6, none⟩ = some (.int .i64 0) := (blk_cell BK141.out 6).trans rfl
                    have hcz18_7 : w11.cell? ⟨gb141, 7, none⟩ = some (.bool false) := (blk_cell BK141.out 7).trans rfl
                    have hfz18_0 := blk_frozen BK141.out 0
                    have hfz18_1 := blk_frozen BK141.out 1
                    have hfz18_2 := blk_frozen BK141.out 2
                    have hfz18_3 := blk_frozen BK141.out 3
                    have hfz18_4 := blk_frozen BK141.out 4
                    have hfz18_5 := blk_frozen BK141.out 5
                    have hfz18_6 := blk_frozen BK141.out 6
                    have hfz18_7 := blk_frozen BK141.out 7
                    go_wp2
                    go_meet
                    case rel => exact ⟨_, ((((rd_T24 l0 x10_1).f6) == 0)), (by first | rfl | (simp; done) | (simp [*]; done)), H', ⟨by have := HK1.out; first | omega | exact Nat.le_refl _⟩, ⟨by (with_reducible repeat (first | apply Kd.R_alloc | apply Kd.R_drewN | apply Kd.R_drew)); exact Kd.R_mono (Kd.R_far (p := ⟨gb141, 7, none⟩) (Kd.R_far (p := ⟨gb141, 6, none⟩) (Kd.R_far (p := ⟨gb141, 5, none⟩) (Kd.R_far (p := ⟨gb141, 4, none⟩) (Kd.R_far (p := ⟨gb141, 3, none⟩) (Kd.R_far (p := ⟨gb141, 2, none⟩) (Kd.R_far (p := ⟨gb141, 1, none⟩) (Kd.R_far (p := ⟨gb141, 0, none⟩) (Kd.R_mono HO_9.out (fun k_ hk => (⟨hk, hk.2⟩ : _ ∧ k_ ≠ gb141))) (fun _ hk => hk.2) (.int .i64 ((rd_T24 l0 x10_1).f0))) (fun _ hk => hk.2) (.string ((rd_T24 l0 x10_1).f1))) (fun _ hk => hk.2) (.string ((rd_T24 l0 x10_1).f2))) (fun _ hk => hk.2) (.int .i64 ((rd_T24 l0 x10_1).f3))) (fun _ hk => hk.2) (.int .i64 ((rd_T24 l0 x10_1).f4))) (fun _ hk => hk.2) (.int .i64 ((rd_T24 l0 x10_1).f5))) (fun _ hk => hk.2) (.int .i64 ((rd_T24 l0 x10_1).f6))) (fun _ hk => hk.2) (.bool ((rd_T24 l0 x10_1).f7))) (fun _ hk => hk.1.2)⟩, ⟨by (with_reducible repeat (first | refine blk_drewN ?_ _ | refine blk_drew ?_ | refine blk_alloc ?_ _)); refine blk_put (cs := #[.int .i64 ((rd_T24 l0 x10_1).f0), .string ((rd_T24 l0 x10_1).f1), .string ((rd_T24 l0 x10_1).f2), .int .i64 ((rd_T24 l0 x10_1).f3), .int .i64 ((rd_T24 l0 x10_1).f4), .int .i64 ((rd_T24 l0 x10_1).f5), .int .i64 ((rd_T24 l0 x10_1).f6), .bool false]) ?_ 7 _ rfl; (with_reducible repeat (first | refine blk_drewN ?_ _ | refine blk_drew ?_ | refine blk_alloc ?_ _)); refine blk_put (cs := #[.int .i64 ((rd_T24 l0 x10_1).f0), .string ((rd_T24 l0 x10_1).f1), .string ((rd_T24 l0 x10_1).f2), .int .i64 ((rd_T24 l0 x10_1).f3), .int .i64 ((rd_T24 l0 x10_1).f4), .int .i64 ((rd_T24 l0 x10_1).f5), .int .i64 0, .bool false]) ?_ 6 _ rfl; (with_reducible repeat (first | refine blk_drewN ?_ _ | refine blk_drew ?_ | refine blk_alloc ?_ _)); refine blk_put (cs := #[.int .i64 ((rd_T24 l0 x10_1).f0), .string ((rd_T24 l0 x10_1).f1), .string ((rd_T24 l0 x10_1).f2), .int .i64 ((rd_T24 l0 x10_1).f3), .int .i64 ((rd_T24 l0 x10_1).f4), .int .i64 0, .int .i64 0, .bool false]) ?_ 5 _ rfl; (with_reducible repeat (first | refine blk_drewN ?_ _ | refine blk_drew ?_ | refine blk_alloc ?_ _)); refine blk_put (cs := #[.int .i64 ((rd_T24 l0 x10_1).f0), .string ((rd_T24 l0 x10_1).f1), .string ((rd_T24 l0 x10_1).f2), .int .i64 ((rd_T24 l0 x10_1).f3), .int .i64 0, .int .i64 0, .int .i64 0, .bool false]) ?_ 4 _ rfl; (with_reducible repeat (first | refine blk_drewN ?_ _ | refine blk_drew ?_ | refine blk_alloc ?_ _)); refine blk_put (cs := #[.int .i64 ((rd_T24 l0 x10_1).f0), .string ((rd_T24 l0 x10_1).f1), .string ((rd_T24 l0 x10_1).f2), .int .i64 0, .int .i64 0, .int .i64 0, .int .i64 0, .bool false]) ?_ 3 _ rfl; (with_reducible repeat (first | refine blk_drewN ?_ _ | refine blk_drew ?_ | refine blk_alloc ?_ _)); refine blk_put (cs := #[.int .i64 ((rd_T24 l0 x10_1).f0), .string ((rd_T24 l0 x10_1).f1), .string (⟨#[]⟩ : ByteArray), .int .i64 0, .int .i64 0, .int .i64 0, .int .i64 0, .bool false]) ?_ 2 _ rfl; (with_reducible repeat (first | refine blk_drewN ?_ _ | refine blk_drew ?_ | refine blk_alloc ?_ _)); refine blk_put (cs := #[.int .i64 ((rd_T24 l0 x10_1).f0), .string (⟨#[]⟩ : ByteArray), .string (⟨#[]⟩ : ByteArray), .int .i64 0, .int .i64 0, .int .i64 0, .int .i64 0, .bool false]) ?_ 1 _ rfl; (with_reducible repeat (first | refine blk_drewN ?_ _ | refine blk_drew ?_ | refine blk_alloc ?_ _)); refine blk_put (cs := #[.int .i64 0, .string (⟨#[]⟩ : ByteArray), .string (⟨#[]⟩ : ByteArray), .int .i64 0, .int .i64 0, .int .i64 0, .int .i64 0, .bool false]) ?_ 0 _ rfl; (with_reducible repeat (first | refine blk_drewN ?_ _ | refine blk_drew ?_ | refine blk_alloc ?_ _)); exact BK141.out⟩, ⟨by repeat (first | (with_reducible first | exact HB.out | apply below_alloc | apply pw_below_drewN | apply below_drew1 | refine below_set ?_ GE141.out) | exact HB.out)⟩⟩
              · rw [if_neg c13] at H
                have c13b0 : (((rd_T24 l0 x10_1).f1).toList == a1.toList) = false := beq_eq_false_iff_ne.mpr c13
                have c13b1 : (((rd_T24 l0 x10_1).f1).toList != a1.toList) = true := bne_iff_ne.mpr c13
                (first | rw [c13b0] | (simp only [i64_w, i32_w]; rw [c13b0]) | rw [c13b1] | skip)
                have H' := Aside0.mk H
                clear H
                have hcz19_0 : w11.cell? ⟨gb141, 0, none⟩ = some (.int .i64 0) := (blk_cell BK141.out 0).trans rfl
                have hcz19_1 : w11.cell? ⟨gb141, 1, none⟩ = some (.string (⟨#[]⟩ : ByteArray)) := (blk_cell BK141.out 1).trans rfl
                have hcz19_2 : w11.cell? ⟨gb141, 2, none⟩ = some (.string (⟨#[]⟩ : ByteArray)) := (blk_cell BK141.out 2).trans rfl
                have hcz19_3 : w11.cell? ⟨gb141, 3, none⟩ = some (.int .i64 0) := (blk_cell BK141.out 3).trans rfl
                have hcz19_4 : w11.cell? ⟨gb141, 4, none⟩ = some (.int .i64 0) := (blk_cell BK141.out 4).trans rfl
                have hcz19_5 : w11.cell? ⟨gb141, 5, none⟩ = some (.int .i64 0) := (blk_cell BK141.out 5).trans rfl
                have hcz19_6 : w11.cell? ⟨gb141, 6, none⟩ = some (.int .i64 0) := (blk_cell BK141.out 6).trans rfl
                have hcz19_7 : w11.cell? ⟨gb141, 7, none⟩ = some (.bool false) := (blk_cell BK141.out 7).trans rfl
                have hfz19_0 := blk_frozen BK141.out 0
                have hfz19_1 := blk_frozen BK141.out 1
                have hfz19_2 := blk_frozen BK141.out 2
                have hfz19_3 := blk_frozen BK141.out 3
                have hfz19_4 := blk_frozen BK141.out 4
                have hfz19_5 := blk_frozen BK141.out 5
                have hfz19_6 := blk_frozen BK141.out 6
                have hfz19_7 := blk_frozen BK141.out 7
                go_wp2
                go_meet
                case rel => exact ⟨_, (true), (by first | rfl | (simp; done) | (simp [*]; done)), H', ⟨by have := HK1.out; first | omega | exact Nat.le_refl _⟩, ⟨by (with_reducible repeat (first | apply Kd.R_alloc | apply Kd.R_drewN | apply Kd.R_drew)); exact Kd.R_mono (Kd.R_far (p := ⟨gb141, 7, none⟩) (Kd.R_far (p := ⟨gb141, 6, none⟩) (Kd.R_far (p := ⟨gb141, 5, none⟩) (Kd.R_far (p := ⟨gb141, 4, none⟩) (Kd.R_far (p := ⟨gb141, 3, none⟩) (Kd.R_far (p := ⟨gb141, 2, none⟩) (Kd.R_far (p := ⟨gb141, 1, none⟩) (Kd.R_far (p := ⟨gb141, 0, none⟩) (Kd.R_mono HO_9.out (fun k_ hk => (⟨hk, hk.2⟩ : _ ∧ k_ ≠ gb141))) (fun _ hk => hk.2) (.int .i64 ((rd_T24 l0 x10_1).f0))) (fun _ hk => hk.2) (.string ((rd_T24 l0 x10_1).f1))) (fun _ hk => hk.2) (.string ((rd_T24 l0 x10_1).f2))) (fun _ hk => hk.2) (.int .i64 ((rd_T24 l0 x10_1).f3))) (fun _ hk => hk.2) (.int .i64 ((rd_T24 l0 x10_1).f4))) (fun _ hk => hk.2) (.int .i64 ((rd_T24 l0 x10_1).f5))) (fun _ hk => hk.2) (.int .i64 ((rd_T24 l0 x10_1).f6))) (fun _ hk => hk.2) (.bool ((rd_T24 l0 x10_1).f7))) (fun _ hk => hk.1.2)⟩, ⟨by (with_reducible repeat (first | refine blk_drewN ?_ _ | refine blk_drew ?_ | refine blk_alloc ?_ _)); refine blk_put (cs := #[.int .i64 ((rd_T24 l0 x10_1).f0), .string ((rd_T24 l0 x10_1).f1), .string ((rd_T24 l0 x10_1).f2), .int .i64 ((rd_T24 l0 x10_1).f3), .int .i64 ((rd_T24 l0 x10_1).f4), .int .i64 ((rd_T24 l0 x10_1).f5), .int .i64 ((rd_T24 l0 x10_1).f6), .bool false]) ?_ 7 _ rfl; (with_reducible repeat (first | refine blk_drewN ?_ _ | refine blk_drew ?_ | refine blk_alloc ?_ _)); refine blk_put (cs := #[.int .i64 ((rd_T24 l0 x10_1).f0), .string ((rd_T24 l0 x10_1).f1), .string ((rd_T24 l0 x10_1).f2), .int .i64 ((rd_T24 l0 x10_1).f3), .int .i64 ((rd_T24 l0 x10_1).f4), .int .i64 ((rd_T24 l0 x10_1).f5), .int .i64 0, .bool false]) ?_ 6 _ rfl; (with_reducible repeat (first | refine blk_drewN ?_ _ | refine blk_drew ?_ | refine blk_alloc ?_ _)); refine blk_put (cs := #[.int .i64 ((rd_T24 l0 x10_1).f0), .string ((rd_T24 l0 x10_1).f1), .string ((rd_T24 l0 x10_1).f2), .int .i64 ((rd_T24 l0 x10_1).f3), .int .i64 ((rd_T24 l0 x10_1).f4), .int .i64 0, .int .i64 0, .bool false]) ?_ 5 _ rfl; (with_reducible repeat (first | refine blk_drewN ?_ _ | refine blk_drew ?_ | refine blk_alloc ?_ _)); refine blk_put (cs := #[.int .i64 ((rd_T24 l0 x10_1).f0), .string ((rd_T24 l0 x10_1).f1), .string ((rd_T24 l0 x10_1).f2), .int .i64 ((rd_T24 l0 x10_1).f3), .int .i64 0, .int .i64 0, .int .i64 0, .bool false]) ?_ 4 _ rfl; (with_reducible repeat (first | refine blk_drewN ?_ _ | refine blk_drew ?_ | refine blk_alloc ?_ _)); refine blk_put (cs := #[.int .i64 ((rd_T24 l0 x10_1).f0), .string ((rd_T24 l0 x10_1).f1), .string ((rd_T24 l0 x10_1).f2), .int .i64 0, .int .i64 0, .int .i64 0, .int .i64 0, .bool false]) ?_ 3 _ rfl; (with_reducible repeat (first | refine blk_drewN ?_ _ | refine blk_drew ?_ | refine blk_alloc ?_ _)); refine blk_put (cs := #[.int .i64 ((rd_T24 l0 x10_1).f0), .string ((rd_T24 l0 x10_1).f1), .string (⟨#[]⟩ : ByteArray), .int .i64 0, .int .i64 0, .int .i64 0, .int .i64 0, .bool false]) ?_ 2 _ rfl; (with_reducible repeat (first | refine blk_drewN ?_ _ | refine blk_drew ?_ | refine blk_alloc ?_ _)); refine blk_put (cs := #[.int .i64 ((rd_T24 l0 x10_1).f0), .string (⟨#[]⟩ : ByteArray), .string (⟨#[]⟩ : ByteArray), .int .i64 0, .int .i64 0, .int .i64 0, .int .i64 0, .bool false]) ?_ 1 _ rfl; (with_reducible repeat (first | refine blk_drewN ?_ _ | refine blk_drew ?_ | refine blk_alloc ?_ _)); refine blk_put (cs := #[.int .i64 0, .string (⟨#[]⟩ : ByteArray), .string (⟨#[]⟩ : ByteArray), .int .i64 0, .int .i64 0, .int .i64 0, .int .i64 0, .bool false]) ?_ 0 _ rfl; (with_reducible repeat (first | refine blk_drewN ?_ _ | refine blk_drew ?_ | refine blk_alloc ?_ _)); exact BK141.out⟩, ⟨by repeat (first | (with_reducible first | exact HB.out | apply below_alloc | apply pw_below_drewN | apply below_drew1 | refine below_set ?_ GE141.out) | exact HB.out)⟩⟩
            case rest =>
              clear HC10
              try clear c1
              try clear p1
              try clear q1
              try clear hx1
              try clear p2
              try clear c6
              try clear c8
              try clear c8b0
              try clear c9
              try clear c9b0
              try clear c13
              try clear c13b0
              try clear c13b1
              try clear c14
              try clear c14b0
              try clear p14
              try clear q14
              try clear hx14
              try clear c15
              try clear c16
              try clear c16b0
              try clear c18
              try clear hcz12_0
              try clear hcz12_1
              try clear hcz12_2
              try clear hcz12_3
              try clear hcz12_4
              try clear hcz12_5
              try clear hcz12_6
              try clear hcz12_7
              try clear hcz15_0
              try clear hcz15_1
              try clear hcz15_2
              try clear hcz15_3
              try clear hcz15_4
              try clear hcz15_5
              try clear hcz15_6
              try clear hcz15_7
              try clear hcz17_0
              try clear hcz17_1
              try clear hcz17_2
              try clear hcz17_3
              try clear hcz17_4
              try clear hcz17_5
              try clear hcz17_6
              try clear hcz17_7
              try clear hcz18_0
              try clear hcz18_1
              try clear hcz18_2
              try clear hcz18_3
              try clear hcz18_4
              try clear hcz18_5
              try clear hcz18_6
              try clear hcz18_7
              try clear hcz19_0
              try clear hcz19_1
              try clear hcz19_2
              try clear hcz19_3
              try clear hcz19_4
              try clear hcz19_5
              try clear hcz19_6
              try clear hcz19_7
              try clear hfz12_0
              try clear hfz12_1
              try clear hfz12_2
              try clear hfz12_3
              try clear hfz12_4
              try clear hfz12_5
              try clear hfz12_6
              try clear hfz12_7
              try clear hfz15_0
              try clear hfz15_1
              try clear hfz15_2
              try clear hfz15_3
              try clear hfz15_4
              try clear hfz15_5
              try clear hfz15_6
              try clear hfz15_7
              try clear hfz17_0
              try clear hfz17_1
              try clear hfz17_2
              try clear hfz17_3
              try clear hfz17_4
              try clear hfz17_5
              try clear hfz17_6
              try clear hfz17_7
              try clear hfz18_0
              try clear hfz18_1
              try clear hfz18_2
              try clear hfz18_3
              try clear hfz18_4
              try clear hfz18_5
              try clear hfz18_6
              try clear hfz18_7
              try clear hfz19_0
              try clear hfz19_1
              try clear hfz19_2
              try clear hfz19_3
              try clear hfz19_4
              try clear hfz19_5
              try clear hfz19_6
              try clear hfz19_7
              try clear hx140_0
              try clear hx140_1
              try clear hx140_2
              try clear hx140_3
              try clear hx140_4
              try clear hx140_5
              try clear hx140_6
              try clear hx140_7
              try clear p140
              try clear p2
              try clear q140
              obtain ⟨kq, x49_9, rfl, HA, HJ9, HO_9, BK141, HB⟩ := hcut
              cases kq with
              | zero => exact absurd HA.out (by simp [wageofficeref31_Open.j1])
              | succ kj9 =>
                have H := HA.out
                clear HA
                simp only [wageofficeref31_Open.j1] at H
                by_cases c20 : x49_9 = true
                · subst c20
                  have H1 : (wageofficeref31_Open.l0 kj9 l0 a1 a2 a3 x9_1 (wrap64 (x10_1 + 1))) = some r := by rw [if_pos rfl] at H; exact H
                  clear H
                  have H := H1
                  clear H1
                  have H' := Aside0.mk H
                  clear H
                  go_wp2
                  go_roundg kj9
                  case measure => have := HK1.out; have := HJ9.out; omega
                  case rel => exact ⟨(x9_1), (wrap64 (x10_1 + 1)), (by first | rfl | (simp; done) | (simp [*]; done)), H', ⟨by have := HK1.out; have := HJ9.out; omega⟩, ⟨by (with_reducible repeat (first | apply Kd.R_alloc | apply Kd.R_drewN | apply Kd.R_drew)); exact Kd.R_mono HO_9.out (fun _ hk => trivial)⟩, ⟨by repeat (first | (with_reducible first | exact HB.out | apply below_alloc | apply pw_below_drewN | apply below_drew1 | refine below_set ?_ GE141.out) | exact HB.out)⟩⟩
                · replace c20 := Bool.eq_false_iff.mpr c20
                  subst c20
                  have H1 : (wageofficeref31_Open.l1 kj9 l0 a1 a2 a3 x9_1 x10_1 true (wrap64 (x10_1 + 1)) ((rd_T24 l0 x10_1).f0) ((rd_T24 l0 x10_1).f1) ((rd_T24 l0 x10_1).f2) ((rd_T24 l0 x10_1).f3) ((rd_T24 l0 x10_1).f4) ((rd_T24 l0 x10_1).f5) ((rd_T24 l0 x10_1).f6) ((rd_T24 l0 x10_1).f7)) = some r := by rw [if_neg (show ¬ (false = true) by decide)] at H; exact H
                  clear H
                  have H := H1
                  clear H1
                  have HC21 := Aside0.mk H
                  clear H
                  go_upto_block 2 with (fail)
                  go_cut [12] (fun v12 wc => ∃ (kq : Nat) (x12_20 : Bool), v12 = .bool x12_20 ∧ Aside0 (wageofficeref31_Open.j3 kq l0 a1 a2 a3 x9_1 x10_1 x12_20 ((rd_T24 l0 x10_1).f0) ((rd_T24 l0 x10_1).f1) ((rd_T24 l0 x10_1).f2) ((rd_T24 l0 x10_1).f3) ((rd_T24 l0 x10_1).f4) ((rd_T24 l0 x10_1).f5) ((rd_T24 l0 x10_1).f6) ((rd_T24 l0 x10_1).f7) = some r) ∧ Aside0 (kq ≤ kj9) ∧ Aside0 (Kd.R k24 24 wc w.heap.size (fun k_ => k_ ≠ gb141) u9 x9_1) ∧ Aside0 (wc.heap[gb141]? = some (.cells #[.int .i64 ((rd_T24 l0 x10_1).f0), .string ((rd_T24 l0 x10_1).f1), .string ((rd_T24 l0 x10_1).f2), .int .i64 ((rd_T24 l0 x10_1).f3), .int .i64 ((rd_T24 l0 x10_1).f4), .int .i64 ((rd_T24 l0 x10_1).f5), .int .i64 ((rd_T24 l0 x10_1).f6), .bool ((rd_T24 l0 x10_1).f7)] 24 (0, 0))) ∧ Aside0 (Below w.heap.size w wc))
                  case first =>
                    have H := HC21.out
                    clear HC21
                    have H' := Aside0.mk H
                    clear H
                    go_wp2
                    go_loopg [12, 13] kj9 (fun kq v12 v13 w' => ∃ (x12_3 : Bool) (x13_3 : Int), v12 = .bool x12_3 ∧ v13 = .int .i64 x13_3 ∧ Aside0 (wageofficeref31_Open.l1 kq l0 a1 a2 a3 x9_1 x10_1 x12_3 x13_3 ((rd_T24 l0 x10_1).f0) ((rd_T24 l0 x10_1).f1) ((rd_T24 l0 x10_1).f2) ((rd_T24 l0 x10_1).f3) ((rd_T24 l0 x10_1).f4) ((rd_T24 l0 x10_1).f5) ((rd_T24 l0 x10_1).f6) ((rd_T24 l0 x10_1).f7) = some r) ∧ Aside0 (kq ≤ kj9) ∧ Aside0 (Kd.R k24 24 w' w.heap.size (fun k_ => k_ ≠ gb141) u9 x9_1) ∧ Aside0 (w'.heap[gb141]? = some (.cells #[.int .i64 ((rd_T24 l0 x10_1).f0), .string ((rd_T24 l0 x10_1).f1), .string ((rd_T24 l0 x10_1).f2), .int .i64 ((rd_T24 l0 x10_1).f3), .int .i64 ((rd_T24 l0 x10_1).f4), .int .i64 ((rd_T24 l0 x10_1).f5), .int .i64 ((rd_T24 l0 x10_1).f6), .bool ((rd_T24 l0 x10_1).f7)] 24 (0, 0))) ∧ Aside0 (Below w.heap.size w w'))
                    case atStart => exact ⟨(true), (wrap64 (x10_1 + 1)), (by first | rfl | (simp; done) | (simp [*]; done)), (by first | rfl | (simp; done) | (simp [*]; done)), H', ⟨Nat.le_refl _⟩, ⟨by (with_reducible repeat (first | apply Kd.R_alloc | apply Kd.R_drewN | apply Kd.R_drew)); exact HO_9.out⟩, ⟨by (with_reducible repeat (first | refine blk_drewN ?_ _ | refine blk_drew ?_ | refine blk_alloc ?_ _)); exact BK141.out⟩, ⟨by repeat (first | (with_reducible first | exact HB.out | apply below_alloc | apply pw_below_drewN | apply below_drew1 | refine below_set ?_ GE141.out) | exact HB.out)⟩⟩
                    case round =>
                      clear H'
                      try clear c1
                      try clear p1
                      try clear q1
                      try clear hx1
                      try clear c2
                      try clear p2
                      try clear c6
                      try clear p6
                      try clear c8
                      try clear c8b0
                      try clear c9
                      try clear c9b0
                      try clear c13
                      try clear c13b0
                      try clear c13b1
                      try clear c14
                      try clear c14b0
                      try clear p14
                      try clear q14
                      try clear hx14
                      try clear c15
                      try clear c16
                      try clear c16b0
                      try clear c18
                      try clear c20
                      try clear hcz12_0
                      try clear hcz12_1
                      try clear hcz12_2
                      try clear hcz12_3
                      try clear hcz12_4
                      try clear hcz12_5
                      try clear hcz12_6
                      try clear hcz12_7
                      try clear hcz15_0
                      try clear hcz15_1
                      try clear hcz15_2
                      try clear hcz15_3
                      try clear hcz15_4
                      try clear hcz15_5
                      try clear hcz15_6
                      try clear hcz15_7
                      try clear hcz17_0
                      try clear hcz17_1
                      try clear hcz17_2
                      try clear hcz17_3
                      try clear hcz17_4
                      try clear hcz17_5
                      try clear hcz17_6
                      try clear hcz17_7
                      try clear hcz18_0
                      try clear hcz18_1
                      try clear hcz18_2
                      try clear hcz18_3
                      try clear hcz18_4
                      try clear hcz18_5
                      try clear hcz18_6
                      try clear hcz18_7
                      try clear hcz19_0
                      try clear hcz19_1
                      try clear hcz19_2
                      try clear hcz19_3
                      try clear hcz19_4
                      try clear hcz19_5
                      try clear hcz19_6
                      try clear hcz19_7
                      try clear hfz12_0
                      try clear hfz12_1
                      try clear hfz12_2
                      try clear hfz12_3
                      try clear hfz12_4
                      try clear hfz12_5
                      try clear hfz12_6
                      try clear hfz12_7
                      try clear hfz15_0
                      try clear hfz15_1
                      try clear hfz15_2
                      try clear hfz15_3
                      try clear hfz15_4
                      try clear hfz15_5
                      try clear hfz15_6
                      try clear hfz15_7
                      try clear hfz17_0
                      try clear hfz17_1
                      try clear hfz17_2
                      try clear hfz17_3
                      try clear hfz17_4
                      try clear hfz17_5
                      try clear hfz17_6
                      try clear hfz17_7
                      try clear hfz18_0
                      try clear hfz18_1
                      try clear hfz18_2
                      try clear hfz18_3
                      try clear hfz18_4
                      try clear hfz18_5
                      try clear hfz18_6
                      try clear hfz18_7
                      try clear hfz19_0
                      try clear hfz19_1
                      try clear hfz19_2
                      try clear hfz19_3
                      try clear hfz19_4
                      try clear hfz19_5
                      try clear hfz19_6
                      try clear hfz19_7
                      try clear hx140_0
                      try clear hx140_1
                      try clear hx140_2
                      try clear hx140_3
                      try clear hx140_4
                      try clear hx140_5
                      try clear hx140_6
                      try clear hx140_7
                      try clear p1
                      try clear p14
                      try clear p140
                      try clear p2
                      try clear q1
                      try clear q14
                      try clear q140
                      obtain ⟨x12_3, x13_3, rfl, rfl, HA, HK3, HO_9, BK141, HB⟩ := hrel
                      cases gk with
                      | zero => exact absurd HA.out (by simp [wageofficeref31_Open.l1])
                      | succ k3 =>
                        have H := HA.out
                        clear HA
                        simp only [wageofficeref31_Open.l1] at H
                        by_cases c22 : x13_3 < (l0.length : Int)
                        · rw [if_pos c22] at H
                          have c22b0 : decide (x13_3 < (l0.length : Int)) = true := decide_eq_true c22
                          clear c22
                          (first | rw [c22b0] | (simp only [i64_w, i32_w]; rw [c22b0]) | rw [c22b1] | skip)
                          by_cases c23 : 0 ≤ x13_3
                          · rw [if_pos c23] at H
                            have c23b0 : decide (0 ≤ x13_3) = true := decide_eq_true c23
                            clear c23
                            by_cases c24 : ((rd_T24 l0 x13_3).f4) ≤ a3
                            · rw [if_pos c24] at H
                              have c24b0 : decide (((rd_T24 l0 x13_3).f4) ≤ a3) = true := decide_eq_true c24
                              clear c24
                              by_cases c25 : x12_3 = true
                              · subst c25
                                have H1 : (wageofficeref31_Open.l1 k3 l0 a1 a2 a3 x9_1 x10_1 (((rd_T24 l0 x13_3).f0) != ((rd_T24 l0 x10_1).f0)) (wrap64 (x13_3 + 1)) ((rd_T24 l0 x10_1).f0) ((rd_T24 l0 x10_1).f1) ((rd_T24 l0 x10_1).f2) ((rd_T24 l0 x10_1).f3) ((rd_T24 l0 x10_1).f4) ((rd_T24 l0 x10_1).f5) ((rd_T24 l0 x10_1).f6) ((rd_T24 l0 x10_1).f7)) = some r := by rw [if_pos rfl] at H; exact H
                                clear H
                                have H := H1
                                clear H1
                                have H' := Aside0.mk H
                                clear H
                                have p142 : 0 ≤ (x13_3 : Int) := of_decide_eq_true (by first | (with_reducible assumption) | assumption)
                                have q142 : x13_3 < (l0.length : Int) := of_decide_eq_true (by first | (with_reducible assumption) | assumption)
                                obtain ⟨ad142, e142, hx142_0, hx142_1, hx142_2, hx142_3, hx142_4, hx142_5, hx142_6, hx142_7⟩ := at_T24 HR0.out x13_3 p142 q142
                                obtain rfl : ad140 = ad142 := (by injection e142)
                                replace hx142_0 := (HB.out.cell (World.block_lt_of_cell? w _ hx142_0)).trans hx142_0
                                replace hx142_1 := (HB.out.cell (World.block_lt_of_cell? w _ hx142_1)).trans hx142_1
                                replace hx142_2 := (HB.out.cell (World.block_lt_of_cell? w _ hx142_2)).trans hx142_2
                                replace hx142_3 := (HB.out.cell (World.block_lt_of_cell? w _ hx142_3)).trans hx142_3
                                replace hx142_4 := (HB.out.cell (World.block_lt_of_cell? w _ hx142_4)).trans hx142_4
                                replace hx142_5 := (HB.out.cell (World.block_lt_of_cell? w _ hx142_5)).trans hx142_5
                                replace hx142_6 := (HB.out.cell (World.block_lt_of_cell? w _ hx142_6)).trans hx142_6
                                replace hx142_7 := (HB.out.cell (World.block_lt_of_cell? w _ hx142_7)).trans hx142_7
                                replace p142 := eq_true p142
                                replace q142 := eq_true q142
                                try go_wp2
                                have n0_ := Aside0.mk (Kd.R_drew HO_9.out)
                                have n1_ := Aside0.mk (blk_drew BK141.out)
                                have n2_ := Aside0.mk (below_drew1 HB.out)
                                clear HO_9
                                clear BK141
                                clear HB
                                have HO_9 := n0_
                                have BK141 := n1_
                                have HB := n2_
                                clear n0_ n1_ n2_
                                have p143 : 0 ≤ (x13_3 : Int) := of_decide_eq_true (by first | (with_reducible assumption) | assumption)
                                have q143 : x13_3 < (l0.length : Int) := of_decide_eq_true (by first | (with_reducible assumption) | assumption)
                                obtain ⟨ad143, e143, hx143_0, hx143_1, hx143_2, hx143_3, hx143_4, hx143_5, hx143_6, hx143_7⟩ := at_T24 HR0.out x13_3 p143 q143
                                have hw143_7 := hx143_7
                                have hw143_6 := hx143_6
                                have hw143_5 := hx143_5
                                have hw143_4 := hx143_4
                                have hw143_3 := hx143_3
                                have hw143_2 := hx143_2
                                have hw143_1 := hx143_1
                                have hw143_0 := hx143_0
                                obtain rfl : ad140 = ad143 := (by injection e143)
                                replace hx143_0 := (HB.out.cell (World.block_lt_of_cell? w _ hx143_0)).trans hx143_0
                                replace hx143_1 := (HB.out.cell (World.block_lt_of_cell? w _ hx143_1)).trans hx143_1
                                replace hx143_2 := (HB.out.cell (World.block_lt_of_cell? w _ hx143_2)).trans hx143_2
                                replace hx143_3 := (HB.out.cell (World.block_lt_of_cell? w _ hx143_3)).trans hx143_3
                                replace hx143_4 := (HB.out.cell (World.block_lt_of_cell? w _ hx143_4)).trans hx143_4
                                replace hx143_5 := (HB.out.cell (World.block_lt_of_cell? w _ hx143_5)).trans hx143_5
                                replace hx143_6 := (HB.out.cell (World.block_lt_of_cell? w _ hx143_6)).trans hx143_6
                                replace hx143_7 := (HB.out.cell (World.block_lt_of_cell? w _ hx143_7)).trans hx143_7
                                replace p143 := eq_true p143
                                replace q143 := eq_true q143
                                refine start_ (n := 12) (S := fun w' => w'.cell? ⟨gb141, 0, none⟩ = some (.int .i64 ((rd_T24 l0 x10_1).f0)) ∧ w'.cell? ⟨gb141, 1, none⟩ = some (.string ((rd_T24 l0 x10_1).f1)) ∧ w'.cell? ⟨gb141, 2, none⟩ = some (.string ((rd_T24 l0 x10_1).f2)) ∧ w'.cell? ⟨gb141, 3, none⟩ = some (.int .i64 ((rd_T24 l0 x10_1).f3)) ∧ w'.cell? ⟨gb141, 4, none⟩ = some (.int .i64 ((rd_T24 l0 x10_1).f4)) ∧ w'.cell? ⟨gb141, 5, none⟩ = some (.int .i64 ((rd_T24 l0 x10_1).f5)) ∧ w'.cell? ⟨gb141, 6, none⟩ = some (.int .i64 ((rd_T24 l0 x10_1).f6)) ∧ w'.cell? ⟨gb141, 7, none⟩ = some (.bool ((rd_T24 l0 x10_1).f7)) ∧ w'.cell? (ad140.add ((x13_3).toNat * 8)) = some (.int .i64 ((rd_T24 l0 x13_3).f0)) ∧ w'.cell? ⟨(ad140.add ((x13_3).toNat * 8)).block, (ad140.add ((x13_3).toNat * 8)).off + 1, none⟩ = some (.string ((rd_T24 l0 x13_3).f1)) ∧ w'.cell? ⟨(ad140.add ((x13_3).toNat * 8)).block, (ad140.add ((x13_3).toNat * 8)).off + 2, none⟩ = some (.string ((rd_T24 l0 x13_3).f2)) ∧ w'.cell? ⟨(ad140.add ((x13_3).toNat * 8)).block, (ad140.add ((x13_3).toNat * 8)).off + 3, none⟩ = some (.int .i64 ((rd_T24 l0 x13_3).f3)) ∧ w'.cell? ⟨(ad140.add ((x13_3).toNat * 8)).block, (ad140.add ((x13_3).toNat * 8)).off + 4, none⟩ = some (.int .i64 ((rd_T24 l0 x13_3).f4)) ∧ w'.cell? ⟨(ad140.add ((x13_3).toNat * 8)).block, (ad140.add ((x13_3).toNat * 8)).off + 5, none⟩ = some (.int .i64 ((rd_T24 l0 x13_3).f5)) ∧ w'.cell? ⟨(ad140.add ((x13_3).toNat * 8)).block, (ad140.add ((x13_3).toNat * 8)).off + 6, none⟩ = some (.int .i64 ((rd_T24 l0 x13_3).f6)) ∧ w'.cell? ⟨(ad140.add ((x13_3).toNat * 8)).block, (ad140.add ((x13_3).toNat * 8)).off + 7, none⟩ = some (.bool ((rd_T24 l0 x13_3).f7))) (ds := []) #[false, false, false, false, false, false, false, false, false, false, false, false] (by kernel_rfl) rfl rfl ⟨(blk_cell BK141.out 0).trans rfl, (blk_cell BK141.out 1).trans rfl, (blk_cell BK141.out 2).trans rfl, (blk_cell BK141.out 3).trans rfl, (blk_cell BK141.out 4).trans rfl, (blk_cell BK141.out 5).trans rfl, (blk_cell BK141.out 6).trans rfl, (blk_cell BK141.out 7).trans rfl, ((HB.out.cell (World.block_lt_of_cell? w _ hw143_0)).trans hw143_0), ((HB.out.cell (World.block_lt_of_cell? w _ hw143_1)).trans hw143_1), ((HB.out.cell (World.block_lt_of_cell? w _ hw143_2)).trans hw143_2), ((HB.out.cell (World.block_lt_of_cell? w _ hw143_3)).trans hw143_3), ((HB.out.cell (World.block_lt_of_cell? w _ hw143_4)).trans hw143_4), ((HB.out.cell (World.block_lt_of_cell? w _ hw143_5)).trans hw143_5), ((HB.out.cell (World.block_lt_of_cell? w _ hw143_6)).trans hw143_6), ((HB.out.cell (World.block_lt_of_cell? w _ hw143_7)).trans hw143_7)⟩ (fun hHeld => ?_); refine with_tabW wageofficeref31_Open.tab13 wageofficeref31_Open.bits13 (fun HT_ HW_ => ?_)
                                generalize wr.drew = w26 at HO_9 BK141 HB hx143_0 hx143_1 hx143_2 hx143_3 hx143_4 hx143_5 hx143_6 hx143_7 hHeld ⊢
                                refine pure_ (i := 0) (N := some 67) (v := ?_) (a' := ?_) #[true, false, false, false, false, false, false, false, false, false, false, false] rfl rfl (any_of HT_.out (by kernel_rfl)) (fun _ _ _ h => h) (Or.inl ⟨by rfl, ?_⟩) ?_ ?_
                                rotate_left
                                · intro w'
                                  go_simp
                                  with_reducible rfl
                                rotate_left
                                · simp only [Act.put, List.setIfInBounds_toArray, List.set_cons_zero, List.set_cons_succ, i64_w, i32_w]
                                  rfl
                                refine pure_ (i := 1) (N := some 68) (v := ?_) (a' := ?_) #[true, true, false, false, false, false, false, false, false, false, false, false] rfl rfl (any_of HT_.out (by kernel_rfl)) (fun _ _ _ h => h) (Or.inl ⟨by rfl, ?_⟩) ?_ ?_
                                rotate_left
                                · intro w'
                                  go_simp
                                  with_reducible rfl
                                rotate_left
                                · simp only [Act.put, List.setIfInBounds_toArray, List.set_cons_zero, List.set_cons_succ, i64_w, i32_w]
                                  rfl
                                refine pure_ (i := 2) (N := some 69) (v := ?_) (a' := ?_) #[true, true, true, false, false, false, false, false, false, false, false, false] rfl rfl (any_of HT_.out (by kernel_rfl)) (fun _ _ _ h => h) (Or.inl ⟨by rfl, ?_⟩) ?_ ?_
                                rotate_left
                                · intro w'
                                  go_simp
                                  with_reducible rfl
                                rotate_left
                                · simp only [Act.put, List.setIfInBounds_toArray, List.set_cons_zero, List.set_cons_succ, i64_w, i32_w]
                                  rfl
                                refine pure_ (i := 3) (N := some 70) (v := ?_) (a' := ?_) #[true, true, true, true, false, false, false, false, false, false, false, false] rfl rfl (any_of HT_.out (by kernel_rfl)) (fun _ _ _ h => h) (Or.inl ⟨by rfl, ?_⟩) ?_ ?_
                                rotate_left
                                · intro w'
                                  go_simp
                                  with_reducible rfl
                                rotate_left
                                · simp only [Act.put, List.setIfInBounds_toArray, List.set_cons_zero, List.set_cons_succ, i64_w, i32_w]
                                  rfl
                                refine pure_ (i := 4) (N := some 71) (v := ?_) (a' := ?_) #[true, true, true, true, true, false, false, false, false, false, false, false] rfl rfl (any_of HT_.out (by kernel_rfl)) (fun _ _ _ h => h) (Or.inl ⟨by rfl, ?_⟩) ?_ ?_
                                rotate_left
                                · intro w'
                                  go_simp
                                  with_reducible rfl
                                rotate_left
                                · simp only [Act.put, List.setIfInBounds_toArray, List.set_cons_zero, List.set_cons_succ, i64_w, i32_w]
                                  rfl
                                refine pure_ (i := 5) (N := some 72) (v := ?_) (a' := ?_) #[true, true, true, true, true, true, false, false, false, false, false, false] rfl rfl (any_of HT_.out (by kernel_rfl)) (fun _ _ _ h => h) (Or.inl ⟨by rfl, ?_⟩) ?_ ?_
                                rotate_left
                                · intro w'
                                  go_simp
                                  with_reducible rfl
                                rotate_left
                                · simp only [Act.put, List.setIfInBounds_toArray, List.set_cons_zero, List.set_cons_succ, i64_w, i32_w]
                                  rfl
                                refine pure_ (i := 7) (N := some 74) (v := ?_) (a' := ?_) #[true, true, true, true, true, true, false, true, false, false, false, false] rfl rfl (any_of HT_.out (by kernel_rfl)) (fun _ _ _ h => h) (Or.inl ⟨by rfl, ?_⟩) ?_ ?_
                                rotate_left
                                · intro w'
                                  go_simp
                                  with_reducible rfl
                                rotate_left
                                · simp only [Act.put, List.setIfInBounds_toArray, List.set_cons_zero, List.set_cons_succ, i64_w, i32_w]
                                  rfl
                                refine take_ (i := 6) (N := some 73) (v := ?_) (a' := ?_) #[true, true, true, true, true, true, true, true, false, false, false, false] rfl rfl (take_ofW HT_.out HW_.out (by kernel_rfl)) (fun _ _ _ h => h) (Or.inl ⟨by rfl, ?_⟩) hHeld ?_ ?_
                                rotate_left
                                · rintro w' ⟨s0, s1, s2, s3, s4, s5, s6, s7, s8, s9, s10, s11, s12, s13, s14, s15⟩
                                  go_simp
                                  with_reducible rfl
                                rotate_left
                                · simp only [Act.put, List.setIfInBounds_toArray, List.set_cons_zero, List.set_cons_succ, i64_w, i32_w]
                                  rfl
                                refine take_ (i := 8) (N := some 75) (v := ?_) (a' := ?_) #[true, true, true, true, true, true, true, true, true, false, false, false] rfl rfl (take_ofW HT_.out HW_.out (by kernel_rfl)) (fun _ _ _ h => h) (Or.inl ⟨by rfl, ?_⟩) hHeld ?_ ?_
                                rotate_left
                                · rintro w' ⟨s0, s1, s2, s3, s4, s5, s6, s7, s8, s9, s10, s11, s12, s13, s14, s15⟩
                                  go_simp
                                  with_reducible rfl
                                rotate_left
                                · simp only [Act.put, List.setIfInBounds_toArray, List.set_cons_zero, List.set_cons_succ, i64_w, i32_w]
                                  rfl
                                refine pure_ (i := 9) (N := some 76) (v := ?_) (a' := ?_) #[true, true, true, true, true, true, true, true, true, true, false, false] rfl rfl (any_of HT_.out (by kernel_rfl)) (fun _ _ _ h => h) (Or.inl ⟨by rfl, ?_⟩) ?_ ?_
                                rotate_left
                                · intro w'
                                  go_simp
                                  with_reducible rfl
                                rotate_left
                                · simp only [Act.put, List.setIfInBounds_toArray, List.set_cons_zero, List.set_cons_succ, i64_w, i32_w]
                                  rfl
                                refine pure_ (i := 10) (N := some 77) (v := ?_) (a' := ?_) #[true, true, true, true, true, true, true, true, true, true, true, false] rfl rfl (any_of HT_.out (by kernel_rfl)) (fun _ _ _ h => h) (Or.inl ⟨by rfl, ?_⟩) ?_ ?_
                                rotate_left
                                · intro w'
                                  go_simp
                                  with_reducible rfl
                                rotate_left
                                · simp only [Act.put, List.setIfInBounds_toArray, List.set_cons_zero, List.set_cons_succ, i64_w, i32_w]
                                  rfl
                                refine pure_ (i := 11) (N := some 12) (v := ?_) (a' := ?_) #[true, true, true, true, true, true, true, true, true, true, true, true] rfl rfl (any_of HT_.out (by kernel_rfl)) (fun _ _ _ h => h) (Or.inl ⟨by rfl, ?_⟩) ?_ ?_
                                rotate_left
                                · intro w'
                                  go_simp
                                  with_reducible rfl
                                rotate_left
                                · simp only [Act.put, List.setIfInBounds_toArray, List.set_cons_zero, List.set_cons_succ, i64_w, i32_w]
                                  rfl
                                refine done_ (done_of HT_.out (by kernel_rfl)) ?_
                                try go_wp2
                                go_roundg k3
                                case measure => have := HK1.out; have := HJ9.out; have := HK3.out; omega
                                case rel => exact ⟨((((rd_T24 l0 x13_3).f0) != ((rd_T24 l0 x10_1).f0))), (wrap64 (x13_3 + 1)), (by first | rfl | (simp; done) | (simp [*]; done)), (by first | rfl | (simp; done) | (simp [*]; done)), H', ⟨by have := HK1.out; have := HJ9.out; have := HK3.out; omega⟩, ⟨by (with_reducible repeat (first | apply Kd.R_alloc | apply Kd.R_drewN | apply Kd.R_drew)); exact HO_9.out⟩, ⟨by (with_reducible repeat (first | refine blk_drewN ?_ _ | refine blk_drew ?_ | refine blk_alloc ?_ _)); exact BK141.out⟩, ⟨by repeat (first | (with_reducible first | exact HB.out | apply below_alloc | apply pw_below_drewN | apply below_drew1 | refine below_set ?_ GE141.out) | exact HB.out)⟩⟩
                              · replace c25 := Bool.eq_false_iff.mpr c25
                                subst c25
                                have H1 : (wageofficeref31_Open.l1 k3 l0 a1 a2 a3 x9_1 x10_1 false (wrap64 (x13_3 + 1)) ((rd_T24 l0 x10_1).f0) ((rd_T24 l0 x10_1).f1) ((rd_T24 l0 x10_1).f2) ((rd_T24 l0 x10_1).f3) ((rd_T24 l0 x10_1).f4) ((rd_T24 l0 x10_1).f5) ((rd_T24 l0 x10_1).f6) ((rd_T24 l0 x10_1).f7)) = some r := by rw [if_neg (show ¬ (false = true) by decide)] at H; exact H
                                clear H
                                have H := H1
                                clear H1
                                have H' := Aside0.mk H
                                clear H
                                have p142 : 0 ≤ (x13_3 : Int) := of_decide_eq_true (by first | (with_reducible assumption) | assumption)
                                have q142 : x13_3 < (l0.length : Int) := of_decide_eq_true (by first | (with_reducible assumption) | assumption)
                                obtain ⟨ad142, e142, hx142_0, hx142_1, hx142_2, hx142_3, hx142_4, hx142_5, hx142_6, hx142_7⟩ := at_T24 HR0.out x13_3 p142 q142
                                obtain rfl : ad140 = ad142 := (by injection e142)
                                replace hx142_0 := (HB.out.cell (World.block_lt_of_cell? w _ hx142_0)).trans hx142_0
                                replace hx142_1 := (HB.out.cell (World.block_lt_of_cell? w _ hx142_1)).trans hx142_1
                                replace hx142_2 := (HB.out.cell (World.block_lt_of_cell? w _ hx142_2)).trans hx142_2
                                replace hx142_3 := (HB.out.cell (World.block_lt_of_cell? w _ hx142_3)).trans hx142_3
                                replace hx142_4 := (HB.out.cell (World.block_lt_of_cell? w _ hx142_4)).trans hx142_4
                                replace hx142_5 := (HB.out.cell (World.block_lt_of_cell? w _ hx142_5)).trans hx142_5
                                replace hx142_6 := (HB.out.cell (World.block_lt_of_cell? w _ hx142_6)).trans hx142_6
                                replace hx142_7 := (HB.out.cell (World.block_lt_of_cell? w _ hx142_7)).trans hx142_7
                                replace p142 := eq_true p142
                                replace q142 := eq_true q142
                                try go_wp2
                                have n0_ := Aside0.mk (Kd.R_drew HO_9.out)
                                have n1_ := Aside0.mk (blk_drew BK141.out)
                                have n2_ := Aside0.mk (below_drew1 HB.out)
                                clear HO_9
                                clear BK141
                                clear HB
                                have HO_9 := n0_
                                have BK141 := n1_
                                have HB := n2_
                                clear n0_ n1_ n2_
                                refine start_ (n := 12) (S := fun w' => True) (ds := []) #[false, false, false, false, false, false, false, false, false, false, false, false] (by kernel_rfl) rfl rfl trivial (fun hHeld => ?_); refine with_tabW wageofficeref31_Open.tab13 wageofficeref31_Open.bits13 (fun HT_ HW_ => ?_)
                                generalize wr.drew = w27 at HO_9 BK141 HB hHeld ⊢
                                refine pure_ (i := 0) (N := some 67) (v := ?_) (a' := ?_) #[true, false, false, false, false, false, false, false, false, false, false, false] rfl rfl (any_of HT_.out (by kernel_rfl)) (fun _ _ _ h => h) (Or.inl ⟨by rfl, ?_⟩) ?_ ?_
                                rotate_left
                                · intro w'
                                  go_simp
                                  with_reducible rfl
                                rotate_left
                                · simp only [Act.put, List.setIfInBounds_toArray, List.set_cons_zero, List.set_cons_succ, i64_w, i32_w]
                                  rfl
                                refine pure_ (i := 1) (N := some 68) (v := ?_) (a' := ?_) #[true, true, false, false, false, false, false, false, false, false, false, false] rfl rfl (any_of HT_.out (by kernel_rfl)) (fun _ _ _ h => h) (Or.inl ⟨by rfl, ?_⟩) ?_ ?_
                                rotate_left
                                · intro w'
                                  go_simp
                                  with_reducible rfl
                                rotate_left
                                · simp only [Act.put, List.setIfInBounds_toArray, List.set_cons_zero, List.set_cons_succ, i64_w, i32_w]
                                  rfl
                                refine pure_ (i := 2) (N := some 69) (v := undef) (a' := ?_) #[true, true, true, false, false, false, false, false, false, false, false, false] rfl rfl (any_of HT_.out (by kernel_rfl)) (fun _ _ _ h => h) (Or.inr ⟨by rfl, rfl⟩) ?_ ?_
                                rotate_left
                                · simp only [Act.put, List.setIfInBounds_toArray, List.set_cons_zero, List.set_cons_succ, i64_w, i32_w]
                                  rfl
                                refine pure_ (i := 3) (N := some 70) (v := undef) (a' := ?_) #[true, true, true, true, false, false, false, false, false, false, false, false] rfl rfl (any_of HT_.out (by kernel_rfl)) (fun _ _ _ h => h) (Or.inr ⟨by rfl, rfl⟩) ?_ ?_
                                rotate_left
                                · simp only [Act.put, List.setIfInBounds_toArray, List.set_cons_zero, List.set_cons_succ, i64_w, i32_w]
                                  rfl
                                refine pure_ (i := 4) (N := some 71) (v := undef) (a' := ?_) #[true, true, true, true, true, false, false, false, false, false, false, false] rfl rfl (any_of HT_.out (by kernel_rfl)) (fun _ _ _ h => h) (Or.inr ⟨by rfl, rfl⟩) ?_ ?_
                                rotate_left
                                · simp only [Act.put, List.setIfInBounds_toArray, List.set_cons_zero, List.set_cons_succ, i64_w, i32_w]
                                  rfl
                                refine pure_ (i := 5) (N := some 72) (v := undef) (a' := ?_) #[true, true, true, true, true, true, false, false, false, false, false, false] rfl rfl (any_of HT_.out (by kernel_rfl)) (fun _ _ _ h => h) (Or.inr ⟨by rfl, rfl⟩) ?_ ?_
                                rotate_left
                                · simp only [Act.put, List.setIfInBounds_toArray, List.set_cons_zero, List.set_cons_succ, i64_w, i32_w]
                                  rfl
                                refine pure_ (i := 6) (N := some 73) (v := undef) (a' := ?_) #[true, true, true, true, true, true, true, false, false, false, false, false] rfl rfl (any_of HT_.out (by kernel_rfl)) (fun _ _ _ h => h) (Or.inr ⟨by rfl, rfl⟩) ?_ ?_
                                rotate_left
                                · simp only [Act.put, List.setIfInBounds_toArray, List.set_cons_zero, List.set_cons_succ, i64_w, i32_w]
                                  rfl
                                refine pure_ (i := 7) (N := some 74) (v := undef) (a' := ?_) #[true, true, true, true, true, true, true, true, false, false, false, false] rfl rfl (any_of HT_.out (by kernel_rfl)) (fun _ _ _ h => h) (Or.inr ⟨by rfl, rfl⟩) ?_ ?_
                                rotate_left
                                · simp only [Act.put, List.setIfInBounds_toArray, List.set_cons_zero, List.set_cons_succ, i64_w, i32_w]
                                  rfl
                                refine pure_ (i := 8) (N := some 75) (v := undef) (a' := ?_) #[true, true, true, true, true, true, true, true, true, false, false, false] rfl rfl (any_of HT_.out (by kernel_rfl)) (fun _ _ _ h => h) (Or.inr ⟨by rfl, rfl⟩) ?_ ?_
                                rotate_left
                                · simp only [Act.put, List.setIfInBounds_toArray, List.set_cons_zero, List.set_cons_succ, i64_w, i32_w]
                                  rfl
                                refine pure_ (i := 9) (N := some 76) (v := undef) (a' := ?_) #[true, true, true, true, true, true, true, true, true, true, false, false] rfl rfl (any_of HT_.out (by kernel_rfl)) (fun _ _ _ h => h) (Or.inr ⟨by rfl, rfl⟩) ?_ ?_
                                rotate_left
                                · simp only [Act.put, List.setIfInBounds_toArray, List.set_cons_zero, List.set_cons_succ, i64_w, i32_w]
                                  rfl
                                refine pure_ (i := 10) (N := some 77) (v := ?_) (a' := ?_) #[true, true, true, true, true, true, true, true, true, true, true, false] rfl rfl (any_of HT_.out (by kernel_rfl)) (fun _ _ _ h => h) (Or.inl ⟨by rfl, ?_⟩) ?_ ?_
                                rotate_left
                                · intro w'
                                  go_simp
                                  with_reducible rfl
                                rotate_left
                                · simp only [Act.put, List.setIfInBounds_toArray, List.set_cons_zero, List.set_cons_succ, i64_w, i32_w]
                                  rfl
                                refine pure_ (i := 11) (N := some 12) (v := ?_) (a' := ?_) #[true, true, true, true, true, true, true, true, true, true, true, true] rfl rfl (any_of HT_.out (by kernel_rfl)) (fun _ _ _ h => h) (Or.inl ⟨by rfl, ?_⟩) ?_ ?_
                                rotate_left
                                · intro w'
                                  go_simp
                                  with_reducible rfl
                                rotate_left
                                · simp only [Act.put, List.setIfInBounds_toArray, List.set_cons_zero, List.set_cons_succ, i64_w, i32_w]
                                  rfl
                                refine done_ (done_of HT_.out (by kernel_rfl)) ?_
                                try go_wp2
                                go_roundg k3
                                case measure => have := HK1.out; have := HJ9.out; have := HK3.out; omega
                                case rel => exact ⟨(false), (wrap64 (x13_3 + 1)), (by first | rfl | (simp; done) | (simp [*]; done)), (by first | rfl | (simp; done) | (simp [*]; done)), H', ⟨by have := HK1.out; have := HJ9.out; have := HK3.out; omega⟩, ⟨by (with_reducible repeat (first | apply Kd.R_alloc | apply Kd.R_drewN | apply Kd.R_drew)); exact HO_9.out⟩, ⟨by (with_reducible repeat (first | refine blk_drewN ?_ _ | refine blk_drew ?_ | refine blk_alloc ?_ _)); exact BK141.out⟩, ⟨by repeat (first | (with_reducible first | exact HB.out | apply below_alloc | apply pw_below_drewN | apply below_drew1 | refine below_set ?_ GE141.out) | exact HB.out)⟩⟩
                            · rw [if_neg c24] at H
                              have c24b0 : decide (((rd_T24 l0 x13_3).f4) ≤ a3) = false := decide_eq_false c24
                              clear c24
                              have H' := Aside0.mk H
                              clear H
                              have p142 : 0 ≤ (x13_3 : Int) := of_decide_eq_true (by first | (with_reducible assumption) | assumption)
                              have q142 : x13_3 < (l0.length : Int) := of_decide_eq_true (by first | (with_reducible assumption) | assumption)
                              obtain ⟨ad142, e142, hx142_0, hx142_1, hx142_2, hx142_3, hx142_4, hx142_5, hx142_6, hx142_7⟩ := at_T24 HR0.out x13_3 p142 q142
                              obtain rfl : ad140 = ad142 := (by injection e142)
                              replace hx142_0 := (HB.out.cell (World.block_lt_of_cell? w _ hx142_0)).trans hx142_0
                              replace hx142_1 := (HB.out.cell (World.block_lt_of_cell? w _ hx142_1)).trans hx142_1
                              replace hx142_2 := (HB.out.cell (World.block_lt_of_cell? w _ hx142_2)).trans hx142_2
                              replace hx142_3 := (HB.out.cell (World.block_lt_of_cell? w _ hx142_3)).trans hx142_3
                              replace hx142_4 := (HB.out.cell (World.block_lt_of_cell? w _ hx142_4)).trans hx142_4
                              replace hx142_5 := (HB.out.cell (World.block_lt_of_cell? w _ hx142_5)).trans hx142_5
                              replace hx142_6 := (HB.out.cell (World.block_lt_of_cell? w _ hx142_6)).trans hx142_6
                              replace hx142_7 := (HB.out.cell (World.block_lt_of_cell? w _ hx142_7)).trans hx142_7
                              replace p142 := eq_true p142
                              replace q142 := eq_true q142
                              go_wp2
                              go_meet
                              case rel => exact ⟨_, (x12_3), (by first | rfl | (simp; done) | (simp [*]; done)), H', ⟨by have := HK1.out; have := HJ9.out; have := HK3.out; first | omega | exact Nat.le_refl _⟩, ⟨by (with_reducible repeat (first | apply Kd.R_alloc | apply Kd.R_drewN | apply Kd.R_drew)); exact HO_9.out⟩, ⟨by (with_reducible repeat (first | refine blk_drewN ?_ _ | refine blk_drew ?_ | refine blk_alloc ?_ _)); exact BK141.out⟩, ⟨by repeat (first | (with_reducible first | exact HB.out | apply below_alloc | apply pw_below_drewN | apply below_drew1 | refine below_set ?_ GE141.out) | exact HB.out)⟩⟩
                          · rw [if_neg c23] at H
                            exact absurd H (by simp)
                        · rw [if_neg c22] at H
                          have c22b0 : decide (x13_3 < (l0.length : Int)) = false := decide_eq_false c22
                          clear c22
                          (first | rw [c22b0] | (simp only [i64_w, i32_w]; rw [c22b0]) | rw [c22b1] | skip)
                          have H' := Aside0.mk H
                          clear H
                          go_wp2
                          go_meet
                          case rel => exact ⟨_, (x12_3), (by first | rfl | (simp; done) | (simp [*]; done)), H', ⟨by have := HK1.out; have := HJ9.out; have := HK3.out; first | omega | exact Nat.le_refl _⟩, ⟨by (with_reducible repeat (first | apply Kd.R_alloc | apply Kd.R_drewN | apply Kd.R_drew)); exact HO_9.out⟩, ⟨by (with_reducible repeat (first | refine blk_drewN ?_ _ | refine blk_drew ?_ | refine blk_alloc ?_ _)); exact BK141.out⟩, ⟨by repeat (first | (with_reducible first | exact HB.out | apply below_alloc | apply pw_below_drewN | apply below_drew1 | refine below_set ?_ GE141.out) | exact HB.out)⟩⟩
                  case rest =>
                    clear HC21
                    try clear c1
                    try clear p1
                    try clear q1
                    try clear hx1
                    try clear c2
                    try clear p2
                    try clear c6
                    try clear p6
                    try clear c8
                    try clear c8b0
                    try clear c9
                    try clear c9b0
                    try clear c13
                    try clear c13b0
                    try clear c13b1
                    try clear c14
                    try clear c14b0
                    try clear p14
                    try clear q14
                    try clear hx14
                    try clear c15
                    try clear c16
                    try clear c16b0
                    try clear c18
                    try clear c20
                    try clear c22
                    try clear c22b0
                    try clear c22b1
                    try clear c23
                    try clear c23b0
                    try clear c24
                    try clear c24b0
                    try clear c25
                    try clear hcz12_0
                    try clear hcz12_1
                    try clear hcz12_2
                    try clear hcz12_3
                    try clear hcz12_4
                    try clear hcz12_5
                    try clear hcz12_6
                    try clear hcz12_7
                    try clear hcz15_0
                    try clear hcz15_1
                    try clear hcz15_2
                    try clear hcz15_3
                    try clear hcz15_4
                    try clear hcz15_5
                    try clear hcz15_6
                    try clear hcz15_7
                    try clear hcz17_0
                    try clear hcz17_1
                    try clear hcz17_2
                    try clear hcz17_3
                    try clear hcz17_4
                    try clear hcz17_5
                    try clear hcz17_6
                    try clear hcz17_7
                    try clear hcz18_0
                    try clear hcz18_1
                    try clear hcz18_2
                    try clear hcz18_3
                    try clear hcz18_4
                    try clear hcz18_5
                    try clear hcz18_6
                    try clear hcz18_7
                    try clear hcz19_0
                    try clear hcz19_1
                    try clear hcz19_2
                    try clear hcz19_3
                    try clear hcz19_4
                    try clear hcz19_5
                    try clear hcz19_6
                    try clear hcz19_7
                    try clear hfz12_0
                    try clear hfz12_1
                    try clear hfz12_2
                    try clear hfz12_3
                    try clear hfz12_4
                    try clear hfz12_5
                    try clear hfz12_6
                    try clear hfz12_7
                    try clear hfz15_0
                    try clear hfz15_1
                    try clear hfz15_2
                    try clear hfz15_3
                    try clear hfz15_4
                    try clear hfz15_5
                    try clear hfz15_6
                    try clear hfz15_7
                    try clear hfz17_0
                    try clear hfz17_1
                    try clear hfz17_2
                    try clear hfz17_3
                    try clear hfz17_4
                    try clear hfz17_5
                    try clear hfz17_6
                    try clear hfz17_7
                    try clear hfz18_0
                    try clear hfz18_1
                    try clear hfz18_2
                    try clear hfz18_3
                    try clear hfz18_4
                    try clear hfz18_5
                    try clear hfz18_6
                    try clear hfz18_7
                    try clear hfz19_0
                    try clear hfz19_1
                    try clear hfz19_2
                    try clear hfz19_3
                    try clear hfz19_4
                    try clear hfz19_5
                    try clear hfz19_6
                    try clear hfz19_7
                    try clear hx140_0
                    try clear hx140_1
                    try clear hx140_2
                    try clear hx140_3
                    try clear hx140_4
                    try clear hx140_5
                    try clear hx140_6
                    try clear hx140_7
                    try clear hx142_0
                    try clear hx142_1
                    try clear hx142_2
                    try clear hx142_3
                    try clear hx142_4
                    try clear hx142_5
                    try clear hx142_6
                    try clear hx142_7
                    try clear hx143_0
                    try clear hx143_1
                    try clear hx143_2
                    try clear hx143_3
                    try clear hx143_4
                    try clear hx143_5
                    try clear hx143_6
                    try clear hx143_7
                    try clear p1
                    try clear p14
                    try clear p140
                    try clear p142
                    try clear p143
                    try clear p2
                    try clear p6
                    try clear q1
                    try clear q14
                    try clear q140
                    try clear q142
                    try clear q143
                    obtain ⟨kq, x12_20, rfl, HA, HJ20, HO_9, BK141, HB⟩ := hcut
                    cases kq with
                    | zero => exact absurd HA.out (by simp [wageofficeref31_Open.j3])
                    | succ kj20 =>
                      have H := HA.out
                      clear HA
                      simp only [wageofficeref31_Open.j3] at H
                      by_cases c28 : x12_20 = true
                      · subst c28
                        have H1 : (wageofficeref31_Open.l2 kj20 l0 a1 a2 a3 x9_1 x10_1 0 ((rd_T24 l0 x10_1).f0) ((rd_T24 l0 x10_1).f1) ((rd_T24 l0 x10_1).f2) ((rd_T24 l0 x10_1).f3) ((rd_T24 l0 x10_1).f4) ((rd_T24 l0 x10_1).f5) ((rd_T24 l0 x10_1).f6) ((rd_T24 l0 x10_1).f7)) = some r := by rw [if_pos rfl] at H; exact H
                        clear H
                        have H := H1
                        clear H1
                        have H' := Aside0.mk H
                        clear H
                        go_wp2
                        go_loopg [14] kj20 (fun kq v14 w' => ∃ (x14_4 : Int), v14 = .int .i64 x14_4 ∧ Aside0 (wageofficeref31_Open.l2 kq l0 a1 a2 a3 x9_1 x10_1 x14_4 ((rd_T24 l0 x10_1).f0) ((rd_T24 l0 x10_1).f1) ((rd_T24 l0 x10_1).f2) ((rd_T24 l0 x10_1).f3) ((rd_T24 l0 x10_1).f4) ((rd_T24 l0 x10_1).f5) ((rd_T24 l0 x10_1).f6) ((rd_T24 l0 x10_1).f7) = some r) ∧ Aside0 (kq ≤ kj20) ∧ Aside0 (Kd.R k24 24 w' w.heap.size (fun k_ => k_ ≠ gb141) u9 x9_1) ∧ Aside0 (w'.heap[gb141]? = some (.cells #[.int .i64 ((rd_T24 l0 x10_1).f0), .string ((rd_T24 l0 x10_1).f1), .string ((rd_T24 l0 x10_1).f2), .int .i64 ((rd_T24 l0 x10_1).f3), .int .i64 ((rd_T24 l0 x10_1).f4), .int .i64 ((rd_T24 l0 x10_1).f5), .int .i64 ((rd_T24 l0 x10_1).f6), .bool ((rd_T24 l0 x10_1).f7)] 24 (0, 0))) ∧ Aside0 (Below w.heap.size w w'))
                        case atStart => exact ⟨(0), (by first | rfl | (simp; done) | (simp [*]; done)), H', ⟨Nat.le_refl _⟩, ⟨by (with_reducible repeat (first | apply Kd.R_alloc | apply Kd.R_drewN | apply Kd.R_drew)); exact HO_9.out⟩, ⟨by (with_reducible repeat (first | refine blk_drewN ?_ _ | refine blk_drew ?_ | refine blk_alloc ?_ _)); exact BK141.out⟩, ⟨by repeat (first | (with_reducible first | exact HB.out | apply below_alloc | apply pw_below_drewN | apply below_drew1 | refine below_set ?_ GE141.out) | exact HB.out)⟩⟩
                        case round =>
                          clear H'
                          try clear c1
                          try clear p1
                          try clear q1
                          try clear hx1
                          try clear c2
                          try clear p2
                          try clear c6
                          try clear p6
                          try clear c8
                          try clear c8b0
                          try clear c9
                          try clear c9b0
                          try clear c13
                          try clear c13b0
                          try clear c13b1
                          try clear c14
                          try clear c14b0
                          try clear p14
                          try clear q14
                          try clear hx14
                          try clear c15
                          try clear c16
                          try clear c16b0
                          try clear c18
                          try clear c20
                          try clear c22
                          try clear c22b0
                          try clear c22b1
                          try clear c23
                          try clear c23b0
                          try clear c24
                          try clear c24b0
                          try clear c25
                          try clear c28
                          try clear hcz12_0
                          try clear hcz12_1
                          try clear hcz12_2
                          try clear hcz12_3
                          try clear hcz12_4
                          try clear hcz12_5
                          try clear hcz12_6
                          try clear hcz12_7
                          try clear hcz15_0
                          try clear hcz15_1
                          try clear hcz15_2
                          try clear hcz15_3
                          try clear hcz15_4
                          try clear hcz15_5
                          try clear hcz15_6
                          try clear hcz15_7
                          try clear hcz17_0
                          try clear hcz17_1
                          try clear hcz17_2
                          try clear hcz17_3
                          try clear hcz17_4
                          try clear hcz17_5
                          try clear hcz17_6
                          try clear hcz17_7
                          try clear hcz18_0
                          try clear hcz18_1
                          try clear hcz18_2
                          try clear hcz18_3
                          try clear hcz18_4
                          try clear hcz18_5
                          try clear hcz18_6
                          try clear hcz18_7
                          try clear hcz19_0
                          try clear hcz19_1
                          try clear hcz19_2
                          try clear hcz19_3
                          try clear hcz19_4
                          try clear hcz19_5
                          try clear hcz19_6
                          try clear hcz19_7
                          try clear hfz12_0
                          try clear hfz12_1
                          try clear hfz12_2
                          try clear hfz12_3
                          try clear hfz12_4
                          try clear hfz12_5
                          try clear hfz12_6
                          try clear hfz12_7
                          try clear hfz15_0
                          try clear hfz15_1
                          try clear hfz15_2
                          try clear hfz15_3
                          try clear hfz15_4
                          try clear hfz15_5
                          try clear hfz15_6
                          try clear hfz15_7
                          try clear hfz17_0
                          try clear hfz17_1
                          try clear hfz17_2
                          try clear hfz17_3
                          try clear hfz17_4
                          try clear hfz17_5
                          try clear hfz17_6
                          try clear hfz17_7
                          try clear hfz18_0
                          try clear hfz18_1
                          try clear hfz18_2
                          try clear hfz18_3
                          try clear hfz18_4
                          try clear hfz18_5
                          try clear hfz18_6
                          try clear hfz18_7
                          try clear hfz19_0
                          try clear hfz19_1
                          try clear hfz19_2
                          try clear hfz19_3
                          try clear hfz19_4
                          try clear hfz19_5
                          try clear hfz19_6
                          try clear hfz19_7
                          try clear hx140_0
                          try clear hx140_1
                          try clear hx140_2
                          try clear hx140_3
                          try clear hx140_4
                          try clear hx140_5
                          try clear hx140_6
                          try clear hx140_7
                          try clear hx142_0
                          try clear hx142_1
                          try clear hx142_2
                          try clear hx142_3
                          try clear hx142_4
                          try clear hx142_5
                          try clear hx142_6
                          try clear hx142_7
                          try clear hx143_0
                          try clear hx143_1
                          try clear hx143_2
                          try clear hx143_3
                          try clear hx143_4
                          try clear hx143_5
                          try clear hx143_6
                          try clear hx143_7
                          try clear p1
                          try clear p14
                          try clear p140
                          try clear p142
                          try clear p143
                          try clear p2
                          try clear p6
                          try clear q1
                          try clear q14
                          try clear q140
                          try clear q142
                          try clear q143
                          obtain ⟨x14_4, rfl, HA, HK4, HO_9, BK141, HB⟩ := hrel
                          cases gk with
                          | zero => exact absurd HA.out (by simp [wageofficeref31_Open.l2])
                          | succ k4 =>
                            have H := HA.out
                            clear HA
                            simp only [wageofficeref31_Open.l2] at H
                            by_cases c29 : x14_4 < (x9_1.length : Int)
                            · rw [if_pos c29] at H
                              have c29b0 : decide (x14_4 < (x9_1.length : Int)) = true := decide_eq_true c29
                              clear c29
                              by_cases c30 : 0 ≤ x14_4
                              · rw [if_pos c30] at H
                                have c30b0 : decide (0 ≤ x14_4) = true := decide_eq_true c30
                                clear c30
                                replace H := Option.bind_eq_some_iff.mp H
                                obtain ⟨t145, A310, H⟩ := H
                                replace H : (if t145 = true then (wageofficeref31_Open.l2 k4 l0 a1 a2 a3 x9_1 x10_1 (wrap64 (x14_4 + 1)) ((rd_T24 l0 x10_1).f0) ((rd_T24 l0 x10_1).f1) ((rd_T24 l0 x10_1).f2) ((rd_T24 l0 x10_1).f3) ((rd_T24 l0 x10_1).f4) ((rd_T24 l0 x10_1).f5) ((rd_T24 l0 x10_1).f6) ((rd_T24 l0 x10_1).f7)) else (if x14_4 ≤ (x9_1.length : Int) then ((some (x9_1.take (x14_4 : Int).toNat : List (S24))).bind fun y146 => (if ([] : List (S24)).length + y146.length < 1759218604441 then ((some (([] : List (S24)) ++ y146 : List (S24))).bind fun y150 => ((some (([(⟨((rd_T24 l0 x10_1).f0), ((rd_T24 l0 x10_1).f1), ((rd_T24 l0 x10_1).f2), ((rd_T24 l0 x10_1).f3), ((rd_T24 l0 x10_1).f4), ((rd_T24 l0 x10_1).f5), ((rd_T24 l0 x10_1).f6), ((rd_T24 l0 x10_1).f7)⟩ : S24)] : List (S24)) : List (S24))).bind fun y153 => (if y150.length + y153.length < 1759218604441 then ((some (y150 ++ y153 : List (S24))).bind fun y156 => ((some (x9_1.drop (x14_4 : Int).toNat : List (S24))).bind fun y159 => (if y156.length + y159.length < 1759218604441 then (wageofficeref31_Open.l0 k4 l0 a1 a2 a3 (y156 ++ y159) (wrap64 (x10_1 + 1))) else (none)))) else (none)))) else (none))) else (none))) = some r := H
                                have A31 := Aside0.mk A310
                                clear A310
                                by_cases c32 : t145 = true
                                · subst c32
                                  have H1 : (wageofficeref31_Open.l2 k4 l0 a1 a2 a3 x9_1 x10_1 (wrap64 (x14_4 + 1)) ((rd_T24 l0 x10_1).f0) ((rd_T24 l0 x10_1).f1) ((rd_T24 l0 x10_1).f2) ((rd_T24 l0 x10_1).f3) ((rd_T24 l0 x10_1).f4) ((rd_T24 l0 x10_1).f5) ((rd_T24 l0 x10_1).f6) ((rd_T24 l0 x10_1).f7)) = some r := by rw [if_pos rfl] at H; exact H
                                  clear H
                                  have H := H1
                                  clear H1
                                  have H' := Aside0.mk H
                                  clear H
                                  try go_wp2
                                  have n0_ := Aside0.mk (Kd.R_drew HO_9.out)
                                  have n1_ := Aside0.mk (blk_drew BK141.out)
                                  have n2_ := Aside0.mk (below_drew1 HB.out)
                                  clear HO_9
                                  clear BK141
                                  clear HB
                                  have HO_9 := n0_
                                  have BK141 := n1_
                                  have HB := n2_
                                  clear n0_ n1_ n2_
                                  obtain ⟨Ao34, co34, eo34⟩ := Kd.R_slice HO_9.out
                                  (first | subst eo34 | (injection eo34 with f1_ f2_ f3_; have f4_ := f1_.symm; have f5_ := f3_.symm; clear f1_ f2_ f3_; subst f4_; subst f5_))
                                  have p144 : 0 ≤ (x14_4 : Int) := of_decide_eq_true (by first | (with_reducible assumption) | assumption)
                                  have q144 : x14_4 < (x9_1.length : Int) := of_decide_eq_true (by first | (with_reducible assumption) | assumption)
                                  obtain ⟨ad144, e144, hx144_0, hx144_1, hx144_2, hx144_3, hx144_4, hx144_5, hx144_6, hx144_7⟩ := at_T24 (Kd.R_reads' HO_9.out).2.2 x14_4 p144 q144
                                  cases e144
                                  replace p144 := eq_true p144
                                  replace q144 := eq_true q144
                                  refine start_ (n := 12) (S := fun w' => w'.cell? ⟨gb141, 0, none⟩ = some (.int .i64 ((rd_T24 l0 x10_1).f0)) ∧ w'.cell? ⟨gb141, 1, none⟩ = some (.string ((rd_T24 l0 x10_1).f1)) ∧ w'.cell? ⟨gb141, 2, none⟩ = some (.string ((rd_T24 l0 x10_1).f2)) ∧ w'.cell? ⟨gb141, 3, none⟩ = some (.int .i64 ((rd_T24 l0 x10_1).f3)) ∧ w'.cell? ⟨gb141, 4, none⟩ = some (.int .i64 ((rd_T24 l0 x10_1).f4)) ∧ w'.cell? ⟨gb141, 5, none⟩ = some (.int .i64 ((rd_T24 l0 x10_1).f5)) ∧ w'.cell? ⟨gb141, 6, none⟩ = some (.int .i64 ((rd_T24 l0 x10_1).f6)) ∧ w'.cell? ⟨gb141, 7, none⟩ = some (.bool ((rd_T24 l0 x10_1).f7)) ∧ w'.cell? (ad144.add ((x14_4).toNat * 8)) = some (.int .i64 ((rd_T24 x9_1 x14_4).f0)) ∧ w'.cell? ⟨(ad144.add ((x14_4).toNat * 8)).block, (ad144.add ((x14_4).toNat * 8)).off + 1, none⟩ = some (.string ((rd_T24 x9_1 x14_4).f1)) ∧ w'.cell? ⟨(ad144.add ((x14_4).toNat * 8)).block, (ad144.add ((x14_4).toNat * 8)).off + 2, none⟩ = some (.string ((rd_T24 x9_1 x14_4).f2)) ∧ w'.cell? ⟨(ad144.add ((x14_4).toNat * 8)).block, (ad144.add ((x14_4).toNat * 8)).off + 3, none⟩ = some (.int .i64 ((rd_T24 x9_1 x14_4).f3)) ∧ w'.cell? ⟨(ad144.add ((x14_4).toNat * 8)).block, (ad144.add ((x14_4).toNat * 8)).off + 4, none⟩ = some (.int .i64 ((rd_T24 x9_1 x14_4).f4)) ∧ w'.cell? ⟨(ad144.add ((x14_4).toNat * 8)).block, (ad144.add ((x14_4).toNat * 8)).off + 5, none⟩ = some (.int .i64 ((rd_T24 x9_1 x14_4).f5)) ∧ w'.cell? ⟨(ad144.add ((x14_4).toNat * 8)).block, (ad144.add ((x14_4).toNat * 8)).off + 6, none⟩ = some (.int .i64 ((rd_T24 x9_1 x14_4).f6)) ∧ w'.cell? ⟨(ad144.add ((x14_4).toNat * 8)).block, (ad144.add ((x14_4).toNat * 8)).off + 7, none⟩ = some (.bool ((rd_T24 x9_1 x14_4).f7))) (ds := []) #[false, false, false, false, false, false, false, false, false, false, false, false] (by kernel_rfl) rfl rfl ⟨(blk_cell BK141.out 0).trans rfl, (blk_cell BK141.out 1).trans rfl, (blk_cell BK141.out 2).trans rfl, (blk_cell BK141.out 3).trans rfl, (blk_cell BK141.out 4).trans rfl, (blk_cell BK141.out 5).trans rfl, (blk_cell BK141.out 6).trans rfl, (blk_cell BK141.out 7).trans rfl, hx144_0, hx144_1, hx144_2, hx144_3, hx144_4, hx144_5, hx144_6, hx144_7⟩ (fun hHeld => ?_); refine with_tabW wageofficeref31_Open.tab16 wageofficeref31_Open.bits16 (fun HT_ HW_ => ?_)
                                  generalize wr.drew = w33 at HO_9 BK141 HB hx144_0 hx144_1 hx144_2 hx144_3 hx144_4 hx144_5 hx144_6 hx144_7 hHeld ⊢
                                  refine pure_ (i := 0) (N := some 80) (v := ?_) (a' := ?_) #[true, false, false, false, false, false, false, false, false, false, false, false] rfl rfl (any_of HT_.out (by kernel_rfl)) (fun _ _ _ h => h) (Or.inl ⟨by rfl, ?_⟩) ?_ ?_
                                  rotate_left
                                  · intro w'
                                    go_simp
                                    with_reducible rfl
                                  rotate_left
                                  · simp only [Act.put, List.setIfInBounds_toArray, List.set_cons_zero, List.set_cons_succ, i64_w, i32_w]
                                    rfl
                                  refine pure_ (i := 1) (N := some 81) (v := ?_) (a' := ?_) #[true, true, false, false, false, false, false, false, false, false, false, false] rfl rfl (any_of HT_.out (by kernel_rfl)) (fun _ _ _ h => h) (Or.inl ⟨by rfl, ?_⟩) ?_ ?_
                                  rotate_left
                                  · intro w'
                                    go_simp
                                    with_reducible rfl
                                  rotate_left
                                  · simp only [Act.put, List.setIfInBounds_toArray, List.set_cons_zero, List.set_cons_succ, i64_w, i32_w]
                                    rfl
                                  refine pure_ (i := 2) (N := some 82) (v := ?_) (a' := ?_) #[true, true, true, false, false, false, false, false, false, false, false, false] rfl rfl (any_of HT_.out (by kernel_rfl)) (fun _ _ _ h => h) (Or.inl ⟨by rfl, ?_⟩) ?_ ?_
                                  rotate_left
                                  · intro w'
                                    go_simp
                                    with_reducible rfl
                                  rotate_left
                                  · simp only [Act.put, List.setIfInBounds_toArray, List.set_cons_zero, List.set_cons_succ, i64_w, i32_w]
                                    rfl
                                  refine pure_ (i := 3) (N := some 83) (v := ?_) (a' := ?_) #[true, true, true, true, false, false, false, false, false, false, false, false] rfl rfl (any_of HT_.out (by kernel_rfl)) (fun _ _ _ h => h) (Or.inl ⟨by rfl, ?_⟩) ?_ ?_
                                  rotate_left
                                  · intro w'
                                    go_simp
                                    with_reducible rfl
                                  rotate_left
                                  · simp only [Act.put, List.setIfInBounds_toArray, List.set_cons_zero, List.set_cons_succ, i64_w, i32_w]
                                    rfl
                                  refine pure_ (i := 4) (N := some 84) (v := ?_) (a' := ?_) #[true, true, true, true, true, false, false, false, false, false, false, false] rfl rfl (any_of HT_.out (by kernel_rfl)) (fun _ _ _ h => h) (Or.inl ⟨by rfl, ?_⟩) ?_ ?_
                                  rotate_left
                                  · intro w'
                                    go_simp
                                    with_reducible rfl
                                  rotate_left
                                  · simp only [Act.put, List.setIfInBounds_toArray, List.set_cons_zero, List.set_cons_succ, i64_w, i32_w]
                                    rfl
                                  refine pure_ (i := 5) (N := some 85) (v := ?_) (a' := ?_) #[true, true, true, true, true, true, false, false, false, false, false, false] rfl rfl (any_of HT_.out (by kernel_rfl)) (fun _ _ _ h => h) (Or.inl ⟨by rfl, ?_⟩) ?_ ?_
                                  rotate_left
                                  · intro w'
                                    go_simp
                                    with_reducible rfl
                                  rotate_left
                                  · simp only [Act.put, List.setIfInBounds_toArray, List.set_cons_zero, List.set_cons_succ, i64_w, i32_w]
                                    rfl
                                  refine pure_ (i := 6) (N := some 86) (v := ?_) (a' := ?_) #[true, true, true, true, true, true, true, false, false, false, false, false] rfl rfl (any_of HT_.out (by kernel_rfl)) (fun _ _ _ h => h) (Or.inl ⟨by rfl, ?_⟩) ?_ ?_
                                  rotate_left
                                  · intro w'
                                    go_simp
                                    with_reducible rfl
                                  rotate_left
                                  · simp only [Act.put, List.setIfInBounds_toArray, List.set_cons_zero, List.set_cons_succ, i64_w, i32_w]
                                    rfl
                                  refine pure_ (i := 7) (N := some 87) (v := ?_) (a' := ?_) #[true, true, true, true, true, true, true, true, false, false, false, false] rfl rfl (any_of HT_.out (by kernel_rfl)) (fun _ _ _ h => h) (Or.inl ⟨by rfl, ?_⟩) ?_ ?_
                                  rotate_left
                                  · intro w'
                                    go_simp
                                    with_reducible rfl
                                  rotate_left
                                  · simp only [Act.put, List.setIfInBounds_toArray, List.set_cons_zero, List.set_cons_succ, i64_w, i32_w]
                                    rfl
                                  refine take_ (i := 8) (N := some 88) (v := ?_) (a' := ?_) #[true, true, true, true, true, true, true, true, true, false, false, false] rfl rfl (take_ofW HT_.out HW_.out (by kernel_rfl)) (fun _ _ _ h => h) (Or.inl ⟨by rfl, ?_⟩) hHeld ?_ ?_
                                  rotate_left
                                  · rintro w' ⟨s0, s1, s2, s3, s4, s5, s6, s7, s8, s9, s10, s11, s12, s13, s14, s15⟩
                                    go_simp
                                    with_reducible rfl
                                  rotate_left
                                  · simp only [Act.put, List.setIfInBounds_toArray, List.set_cons_zero, List.set_cons_succ, i64_w, i32_w]
                                    rfl
                                  refine take_ (i := 9) (N := some 89) (v := ?_) (a' := ?_) #[true, true, true, true, true, true, true, true, true, true, false, false] rfl rfl (take_ofW HT_.out HW_.out (by kernel_rfl)) (fun _ _ _ h => h) (Or.inl ⟨by rfl, ?_⟩) hHeld ?_ ?_
                                  rotate_left
                                  · rintro w' ⟨s0, s1, s2, s3, s4, s5, s6, s7, s8, s9, s10, s11, s12, s13, s14, s15⟩
                                    go_simp
                                    with_reducible rfl
                                  rotate_left
                                  · simp only [Act.put, List.setIfInBounds_toArray, List.set_cons_zero, List.set_cons_succ, i64_w, i32_w]
                                    rfl
                                  refine one_ (i := 10) (N := some 90) #[true, true, true, true, true, true, true, true, true, true, true, false] rfl rfl (one_of HT_.out (by kernel_rfl)) (by decide) (fun K hK => ?_)
                                  refine goes_ Try.func30 (by kernel_rfl) rfl #[.agg #[.int .i64 ((rd_T24 x9_1 x14_4).f0), .string ((rd_T24 x9_1 x14_4).f1), .string ((rd_T24 x9_1 x14_4).f2), .int .i64 ((rd_T24 x9_1 x14_4).f3), .int .i64 ((rd_T24 x9_1 x14_4).f4), .int .i64 ((rd_T24 x9_1 x14_4).f5), .int .i64 ((rd_T24 x9_1 x14_4).f6), .bool ((rd_T24 x9_1 x14_4).f7)], .agg #[.int .i64 ((rd_T24 l0 x10_1).f0), .string ((rd_T24 l0 x10_1).f1), .string ((rd_T24 l0 x10_1).f2), .int .i64 ((rd_T24 l0 x10_1).f3), .int .i64 ((rd_T24 l0 x10_1).f4), .int .i64 ((rd_T24 l0 x10_1).f5), .int .i64 ((rd_T24 l0 x10_1).f6), .bool ((rd_T24 l0 x10_1).f7)]] (by rfl) rfl rfl (by (try simp only [List.map_toArray, List.map_cons, List.map_nil]); first | done | rfl | (simp only [List.length_drop, List.length_take]; rfl)) ?_
                                  with_reducible refine (wageofficeref31_before.calls ((rd_T24 x9_1 x14_4).f0) ((rd_T24 x9_1 x14_4).f1) ((rd_T24 x9_1 x14_4).f2) ((rd_T24 x9_1 x14_4).f3) ((rd_T24 x9_1 x14_4).f4) ((rd_T24 x9_1 x14_4).f5) ((rd_T24 x9_1 x14_4).f6) ((rd_T24 x9_1 x14_4).f7) ((rd_T24 l0 x10_1).f0) ((rd_T24 l0 x10_1).f1) ((rd_T24 l0 x10_1).f2) ((rd_T24 l0 x10_1).f3) ((rd_T24 l0 x10_1).f4) ((rd_T24 l0 x10_1).f5) ((rd_T24 l0 x10_1).f6) ((rd_T24 l0 x10_1).f7) true _ A31.out).mono ?_
                                  rintro e w35 ⟨rfl, hb⟩
                                  have HS8_ := (hb.cell (World.block_lt_of_cell? _ _ (hHeld.2.2.2.2.2.2.2.2.1))).trans (hHeld.2.2.2.2.2.2.2.2.1)
                                  have HS9_ := (hb.cell (World.block_lt_of_cell? _ _ (hHeld.2.2.2.2.2.2.2.2.2.1))).trans (hHeld.2.2.2.2.2.2.2.2.2.1)
                                  have HS10_ := (hb.cell (World.block_lt_of_cell? _ _ (hHeld.2.2.2.2.2.2.2.2.2.2.1))).trans (hHeld.2.2.2.2.2.2.2.2.2.2.1)
                                  have HS11_ := (hb.cell (World.block_lt_of_cell? _ _ (hHeld.2.2.2.2.2.2.2.2.2.2.2.1))).trans (hHeld.2.2.2.2.2.2.2.2.2.2.2.1)
                                  have HS12_ := (hb.cell (World.block_lt_of_cell? _ _ (hHeld.2.2.2.2.2.2.2.2.2.2.2.2.1))).trans (hHeld.2.2.2.2.2.2.2.2.2.2.2.2.1)
                                  have HS13_ := (hb.cell (World.block_lt_of_cell? _ _ (hHeld.2.2.2.2.2.2.2.2.2.2.2.2.2.1))).trans (hHeld.2.2.2.2.2.2.2.2.2.2.2.2.2.1)
                                  have HS14_ := (hb.cell (World.block_lt_of_cell? _ _ (hHeld.2.2.2.2.2.2.2.2.2.2.2.2.2.2.1))).trans (hHeld.2.2.2.2.2.2.2.2.2.2.2.2.2.2.1)
                                  have HS15_ := (hb.cell (World.block_lt_of_cell? _ _ (hHeld.2.2.2.2.2.2.2.2.2.2.2.2.2.2.2))).trans (hHeld.2.2.2.2.2.2.2.2.2.2.2.2.2.2.2)
                                  refine ⟨_, rfl, ?_⟩
                                  have n0_ := Aside0.mk (Kd.R_below (by (with_reducible repeat (first | apply Kd.R_alloc | apply Kd.R_drewN | apply Kd.R_drew)); exact HO_9.out) hb)
                                  have n1_ := Aside0.mk (blk_below (g := gb141) (o := .cells #[.int .i64 ((rd_T24 l0 x10_1).f0), .string ((rd_T24 l0 x10_1).f1), .string ((rd_T24 l0 x10_1).f2), .int .i64 ((rd_T24 l0 x10_1).f3), .int .i64 ((rd_T24 l0 x10_1).f4), .int .i64 ((rd_T24 l0 x10_1).f5), .int .i64 ((rd_T24 l0 x10_1).f6), .bool ((rd_T24 l0 x10_1).f7)] 24 (0, 0)) (by (with_reducible repeat (first | refine blk_drewN ?_ _ | refine blk_drew ?_ | refine blk_alloc ?_ _)); exact BK141.out) hb)
                                  have n2_ := Aside0.mk (below_step (by repeat (first | (with_reducible first | exact HB.out | apply below_alloc | apply pw_below_drewN | apply below_drew1 | refine below_set ?_ GE141.out) | exact HB.out)) hb)
                                  clear HO_9
                                  clear BK141
                                  clear HB
                                  have HO_9 := n0_
                                  have BK141 := n1_
                                  have HB := n2_
                                  clear n0_ n1_ n2_
                                  (try clear hb)
                                  (try clear hb2)
                                  (try clear hk)
                                  (try clear hi)
                                  refine hK.out _ _ ⟨(blk_cell BK141.out 0).trans rfl, (blk_cell BK141.out 1).trans rfl, (blk_cell BK141.out 2).trans rfl, (blk_cell BK141.out 3).trans rfl, (blk_cell BK141.out 4).trans rfl, (blk_cell BK141.out 5).trans rfl, (blk_cell BK141.out 6).trans rfl, (blk_cell BK141.out 7).trans rfl, HS8_, HS9_, HS10_, HS11_, HS12_, HS13_, HS14_, HS15_⟩ (fun hHeld => ?_)
                                  clear hK K
                                  refine norm_ (a' := ?_) ?_ ?_
                                  rotate_left
                                  · show Act.put _ (some 90) _ = _
                                    simp only [Act.put, List.setIfInBounds_toArray, List.set_cons_zero, List.set_cons_succ, i64_w, i32_w]
                                    rfl
                                  refine pure_ (i := 11) (N := some 91) (v := ?_) (a' := ?_) #[true, true, true, true, true, true, true, true, true, true, true, true] rfl rfl (any_of HT_.out (by kernel_rfl)) (fun _ _ _ h => h) (Or.inl ⟨by rfl, ?_⟩) ?_ ?_
                                  rotate_left
                                  · intro w'
                                    go_simp
                                    with_reducible rfl
                                  rotate_left
                                  · simp only [Act.put, List.setIfInBounds_toArray, List.set_cons_zero, List.set_cons_succ, i64_w, i32_w]
                                    rfl
                                  refine done_ (done_of HT_.out (by kernel_rfl)) ?_
                                  try go_wp2
                                  go_roundg k4
                                  case measure => have := HK1.out; have := HJ9.out; have := HJ20.out; have := HK4.out; omega
                                  case rel => exact ⟨(wrap64 (x14_4 + 1)), (by first | rfl | (simp; done) | (simp [*]; done)), H', ⟨by have := HK1.out; have := HJ9.out; have := HJ20.out; have := HK4.out; omega⟩, ⟨by (with_reducible repeat (first | apply Kd.R_alloc | apply Kd.R_drewN | apply Kd.R_drew)); exact HO_9.out⟩, ⟨by (with_reducible repeat (first | refine blk_drewN ?_ _ | refine blk_drew ?_ | refine blk_alloc ?_ _)); exact BK141.out⟩, ⟨by repeat (first | (with_reducible first | exact HB.out | apply below_alloc | apply pw_below_drewN | apply below_drew1 | refine below_set ?_ GE141.out) | exact HB.out)⟩⟩
                                · replace c32 := Bool.eq_false_iff.mpr c32
                                  subst c32
                                  have H1 : (if x14_4 ≤ (x9_1.length : Int) then ((some (x9_1.take (x14_4 : Int).toNat : List (S24))).bind fun y146 => (if ([] : List (S24)).length + y146.length < 1759218604441 then ((some (([] : List (S24)) ++ y146 : List (S24))).bind fun y150 => ((some (([(⟨((rd_T24 l0 x10_1).f0), ((rd_T24 l0 x10_1).f1), ((rd_T24 l0 x10_1).f2), ((rd_T24 l0 x10_1).f3), ((rd_T24 l0 x10_1).f4), ((rd_T24 l0 x10_1).f5), ((rd_T24 l0 x10_1).f6), ((rd_T24 l0 x10_1).f7)⟩ : S24)] : List (S24)) : List (S24))).bind fun y153 => (if y150.length + y153.length < 1759218604441 then ((some (y150 ++ y153 : List (S24))).bind fun y156 => ((some (x9_1.drop (x14_4 : Int).toNat : List (S24))).bind fun y159 => (if y156.length + y159.length < 1759218604441 then (wageofficeref31_Open.l0 k4 l0 a1 a2 a3 (y156 ++ y159) (wrap64 (x10_1 + 1))) else (none)))) else (none)))) else (none))) else (none)) = some r := by rw [if_neg (show ¬ (false = true) by decide)] at H; exact H
                                  clear H
                                  have H := H1
                                  clear H1
                                  have c36b0 := eq_true (of_decide_eq_true (by first | (with_reducible assumption) | assumption) : 0 ≤ x14_4)
                                  by_cases c37 : x14_4 ≤ (x9_1.length : Int)
                                  · rw [if_pos c37] at H
                                    have c37b0 := eq_true c37
                                    have c37b1 : decide (x14_4 ≤ (x9_1.length : Int)) = true := decide_eq_true c37
                                    clear c37
                                    obtain ⟨y146, hy146⟩ : ∃ y_ : List (S24), y_ = (x9_1.take (x14_4 : Int).toNat) := ⟨_, rfl⟩
                                    replace H : (if ([] : List (S24)).length + y146.length < 1759218604441 then ((some (([] : List (S24)) ++ y146 : List (S24))).bind fun y150 => ((some (([(⟨((rd_T24 l0 x10_1).f0), ((rd_T24 l0 x10_1).f1), ((rd_T24 l0 x10_1).f2), ((rd_T24 l0 x10_1).f3), ((rd_T24 l0 x10_1).f4), ((rd_T24 l0 x10_1).f5), ((rd_T24 l0 x10_1).f6), ((rd_T24 l0 x10_1).f7)⟩ : S24)] : List (S24)) : List (S24))).bind fun y153 => (if y150.length + y153.length < 1759218604441 then ((some (y150 ++ y153 : List (S24))).bind fun y156 => ((some (x9_1.drop (x14_4 : Int).toNat : List (S24))).bind fun y159 => (if y156.length + y159.length < 1759218604441 then (wageofficeref31_Open.l0 k4 l0 a1 a2 a3 (y156 ++ y159) (wrap64 (x10_1 + 1))) else (none)))) else (none)))) else (none)) = some r := by first | (rw [hy146]; with_reducible exact H) | (have H2_ := (Option.bind_some _ _).symm.trans H; rw [hy146]; with_reducible exact H2_) | (have H2_ := (Option.bind_some _ _).symm.trans H; with_reducible exact H2_) | with_reducible exact H | (rw [hy146]; exact H) | exact H
                                    have Ny146 := Aside0.mk hy146
                                    clear hy146
                                    by_cases c38 : ([] : List (S24)).length + y146.length < 1759218604441
                                    · rw [if_pos c38] at H
                                      have LMc38 := Aside0.mk c38
                                      clear c38
                                      obtain ⟨y150, hy150⟩ : ∃ y_ : List (S24), y_ = (([] : List (S24)) ++ y146) := ⟨_, rfl⟩
                                      replace H : ((some (([(⟨((rd_T24 l0 x10_1).f0), ((rd_T24 l0 x10_1).f1), ((rd_T24 l0 x10_1).f2), ((rd_T24 l0 x10_1).f3), ((rd_T24 l0 x10_1).f4), ((rd_T24 l0 x10_1).f5), ((rd_T24 l0 x10_1).f6), ((rd_T24 l0 x10_1).f7)⟩ : S24)] : List (S24)) : List (S24))).bind fun y153 => (if y150.length + y153.length < 1759218604441 then ((some (y150 ++ y153 : List (S24))).bind fun y156 => ((some (x9_1.drop (x14_4 : Int).toNat : List (S24))).bind fun y159 => (if y156.length + y159.length < 1759218604441 then (wageofficeref31_Open.l0 k4 l0 a1 a2 a3 (y156 ++ y159) (wrap64 (x10_1 + 1))) else (none)))) else (none))) = some r := by first | (rw [hy150]; with_reducible exact H) | (have H2_ := (Option.bind_some _ _).symm.trans H; rw [hy150]; with_reducible exact H2_) | (have H2_ := (Option.bind_some _ _).symm.trans H; with_reducible exact H2_) | with_reducible exact H | (rw [hy150]; exact H) | exact H
                                      have Ny150 := Aside0.mk hy150
                                      clear hy150
                                      obtain ⟨y153, hy153⟩ : ∃ y_ : List (S24), y_ = (([(⟨((rd_T24 l0 x10_1).f0), ((rd_T24 l0 x10_1).f1), ((rd_T24 l0 x10_1).f2), ((rd_T24 l0 x10_1).f3), ((rd_T24 l0 x10_1).f4), ((rd_T24 l0 x10_1).f5), ((rd_T24 l0 x10_1).f6), ((rd_T24 l0 x10_1).f7)⟩ : S24)] : List (S24))) := ⟨_, rfl⟩
                                      replace H : (if y150.length + y153.length < 1759218604441 then ((some (y150 ++ y153 : List (S24))).bind fun y156 => ((some (x9_1.drop (x14_4 : Int).toNat : List (S24))).bind fun y159 => (if y156.length + y159.length < 1759218604441 then (wageofficeref31_Open.l0 k4 l0 a1 a2 a3 (y156 ++ y159) (wrap64 (x10_1 + 1))) else (none)))) else (none)) = some r := by first | (rw [hy153]; with_reducible exact H) | (have H2_ := (Option.bind_some _ _).symm.trans H; rw [hy153]; with_reducible exact H2_) | (have H2_ := (Option.bind_some _ _).symm.trans H; with_reducible exact H2_) | with_reducible exact H | (rw [hy153]; exact H) | exact H
                                      have Ny153 := Aside0.mk hy153
                                      clear hy153
                                      by_cases c39 : y150.length + y153.length < 1759218604441
                                      · rw [if_pos c39] at H
                                        have LMc39 := Aside0.mk c39
                                        clear c39
                                        obtain ⟨y156, hy156⟩ : ∃ y_ : List (S24), y_ = (y150 ++ y153) := ⟨_, rfl⟩
                                        replace H : ((some (x9_1.drop (x14_4 : Int).toNat : List (S24))).bind fun y159 => (if y156.length + y159.length < 1759218604441 then (wageofficeref31_Open.l0 k4 l0 a1 a2 a3 (y156 ++ y159) (wrap64 (x10_1 + 1))) else (none))) = some r := by first | (rw [hy156]; with_reducible exact H) | (have H2_ := (Option.bind_some _ _).symm.trans H; rw [hy156]; with_reducible exact H2_) | (have H2_ := (Option.bind_some _ _).symm.trans H; with_reducible exact H2_) | with_reducible exact H | (rw [hy156]; exact H) | exact H
                                        have Ny156 := Aside0.mk hy156
                                        clear hy156
                                        have c40b0 := eq_true (of_decide_eq_true (by first | (with_reducible assumption) | assumption) : 0 ≤ x14_4)
                                        have c41b0 := eq_true (of_decide_eq_true (by first | (with_reducible assumption) | assumption) : x14_4 ≤ (x9_1.length : Int))
                                        obtain ⟨y159, hy159⟩ : ∃ y_ : List (S24), y_ = (x9_1.drop (x14_4 : Int).toNat) := ⟨_, rfl⟩
                                        replace H : (if y156.length + y159.length < 1759218604441 then (wageofficeref31_Open.l0 k4 l0 a1 a2 a3 (y156 ++ y159) (wrap64 (x10_1 + 1))) else (none)) = some r := by first | (rw [hy159]; with_reducible exact H) | (have H2_ := (Option.bind_some _ _).symm.trans H; rw [hy159]; with_reducible exact H2_) | (have H2_ := (Option.bind_some _ _).symm.trans H; with_reducible exact H2_) | with_reducible exact H | (rw [hy159]; exact H) | exact H
                                        have Ny159 := Aside0.mk hy159
                                        clear hy159
                                        by_cases c42 : y156.length + y159.length < 1759218604441
                                        · rw [if_pos c42] at H
                                          have LMc42 := Aside0.mk c42
                                          clear c42
                                          obtain ⟨y163, hy163⟩ : ∃ y_ : List (S24), y_ = (y156 ++ y159) := ⟨_, rfl⟩
                                          replace H : (wageofficeref31_Open.l0 k4 l0 a1 a2 a3 y163 (wrap64 (x10_1 + 1))) = some r := by first | (rw [hy163]; with_reducible exact H) | (have H2_ := (Option.bind_some _ _).symm.trans H; rw [hy163]; with_reducible exact H2_) | (have H2_ := (Option.bind_some _ _).symm.trans H; with_reducible exact H2_) | with_reducible exact H | (rw [hy163]; exact H) | exact H
                                          have Ny163 := Aside0.mk hy163
                                          clear hy163
                                          have H' := Aside0.mk H
                                          clear H
                                          try go_wp2
                                          have n0_ := Aside0.mk (Kd.R_drew HO_9.out)
                                          have n1_ := Aside0.mk (blk_drew BK141.out)
                                          have n2_ := Aside0.mk (below_drew1 HB.out)
                                          clear HO_9
                                          clear BK141
                                          clear HB
                                          have HO_9 := n0_
                                          have BK141 := n1_
                                          have HB := n2_
                                          clear n0_ n1_ n2_
                                          obtain ⟨Ao44, co44, eo44⟩ := Kd.R_slice HO_9.out
                                          (first | subst eo44 | (injection eo44 with f1_ f2_ f3_; have f4_ := f1_.symm; have f5_ := f3_.symm; clear f1_ f2_ f3_; subst f4_; subst f5_))
                                          have p144 : 0 ≤ (x14_4 : Int) := of_decide_eq_true (by first | (with_reducible assumption) | assumption)
                                          have q144 : x14_4 < (x9_1.length : Int) := of_decide_eq_true (by first | (with_reducible assumption) | assumption)
                                          obtain ⟨ad144, e144, hx144_0, hx144_1, hx144_2, hx144_3, hx144_4, hx144_5, hx144_6, hx144_7⟩ := at_T24 (Kd.R_reads' HO_9.out).2.2 x14_4 p144 q144
                                          cases e144
                                          replace p144 := eq_true p144
                                          replace q144 := eq_true q144
                                          refine start_ (n := 12) (S := fun w' => w'.cell? ⟨gb141, 0, none⟩ = some (.int .i64 ((rd_T24 l0 x10_1).f0)) ∧ w'.cell? ⟨gb141, 1, none⟩ = some (.string ((rd_T24 l0 x10_1).f1)) ∧ w'.cell? ⟨gb141, 2, none⟩ = some (.string ((rd_T24 l0 x10_1).f2)) ∧ w'.cell? ⟨gb141, 3, none⟩ = some (.int .i64 ((rd_T24 l0 x10_1).f3)) ∧ w'.cell? ⟨gb141, 4, none⟩ = some (.int .i64 ((rd_T24 l0 x10_1).f4)) ∧ w'.cell? ⟨gb141, 5, none⟩ = some (.int .i64 ((rd_T24 l0 x10_1).f5)) ∧ w'.cell? ⟨gb141, 6, none⟩ = some (.int .i64 ((rd_T24 l0 x10_1).f6)) ∧ w'.cell? ⟨gb141, 7, none⟩ = some (.bool ((rd_T24 l0 x10_1).f7)) ∧ w'.cell? (ad144.add ((x14_4).toNat * 8)) = some (.int .i64 ((rd_T24 x9_1 x14_4).f0)) ∧ w'.cell? ⟨(ad144.add ((x14_4).toNat * 8)).block, (ad144.add ((x14_4).toNat * 8)).off + 1, none⟩ = some (.string ((rd_T24 x9_1 x14_4).f1)) ∧ w'.cell? ⟨(ad144.add ((x14_4).toNat * 8)).block, (ad144.add ((x14_4).toNat * 8)).off + 2, none⟩ = some (.string ((rd_T24 x9_1 x14_4).f2)) ∧ w'.cell? ⟨(ad144.add ((x14_4).toNat * 8)).block, (ad144.add ((x14_4).toNat * 8)).off + 3, none⟩ = some (.int .i64 ((rd_T24 x9_1 x14_4).f3)) ∧ w'.cell? ⟨(ad144.add ((x14_4).toNat * 8)).block, (ad144.add ((x14_4).toNat * 8)).off + 4, none⟩ = some (.int .i64 ((rd_T24 x9_1 x14_4).f4)) ∧ w'.cell? ⟨(ad144.add ((x14_4).toNat * 8)).block, (ad144.add ((x14_4).toNat * 8)).off + 5, none⟩ = some (.int .i64 ((rd_T24 x9_1 x14_4).f5)) ∧ w'.cell? ⟨(ad144.add ((x14_4).toNat * 8)).block, (ad144.add ((x14_4).toNat * 8)).off + 6, none⟩ = some (.int .i64 ((rd_T24 x9_1 x14_4).f6)) ∧ w'.cell? ⟨(ad144.add ((x14_4).toNat * 8)).block, (ad144.add ((x14_4).toNat * 8)).off + 7, none⟩ = some (.bool ((rd_T24 x9_1 x14_4).f7))) (ds := []) #[false, false, false, false, false, false, false, false, false, false, false, false] (by kernel_rfl) rfl rfl ⟨(blk_cell BK141.out 0).trans rfl, (blk_cell BK141.out 1).trans rfl, (blk_cell BK141.out 2).trans rfl, (blk_cell BK141.out 3).trans rfl, (blk_cell BK141.out 4).trans rfl, (blk_cell BK141.out 5).trans rfl, (blk_cell BK141.out 6).trans rfl, (blk_cell BK141.out 7).trans rfl, hx144_0, hx144_1, hx144_2, hx144_3, hx144_4, hx144_5, hx144_6, hx144_7⟩ (fun hHeld => ?_); refine with_tabW wageofficeref31_Open.tab16 wageofficeref31_Open.bits16 (fun HT_ HW_ => ?_)
                                          generalize wr.drew = w43 at HO_9 BK141 HB hx144_0 hx144_1 hx144_2 hx144_3 hx144_4 hx144_5 hx144_6 hx144_7 hHeld ⊢
                                          refine pure_ (i := 0) (N := some 80) (v := ?_) (a' := ?_) #[true, false, false, false, false, false, false, false, false, false, false, false] rfl rfl (any_of HT_.out (by kernel_rfl)) (fun _ _ _ h => h) (Or.inl ⟨by rfl, ?_⟩) ?_ ?_
                                          rotate_left
                                          · intro w'
                                            go_simp
                                            with_reducible rfl
                                          rotate_left
                                          · simp only [Act.put, List.setIfInBounds_toArray, List.set_cons_zero, List.set_cons_succ, i64_w, i32_w]
                                            rfl
                                          refine pure_ (i := 1) (N := some 81) (v := ?_) (a' := ?_) #[true, true, false, false, false, false, false, false, false, false, false, false] rfl rfl (any_of HT_.out (by kernel_rfl)) (fun _ _ _ h => h) (Or.inl ⟨by rfl, ?_⟩) ?_ ?_
                                          rotate_left
                                          · intro w'
                                            go_simp
                                            with_reducible rfl
                                          rotate_left
                                          · simp only [Act.put, List.setIfInBounds_toArray, List.set_cons_zero, List.set_cons_succ, i64_w, i32_w]
                                            rfl
                                          refine pure_ (i := 2) (N := some 82) (v := ?_) (a' := ?_) #[true, true, true, false, false, false, false, false, false, false, false, false] rfl rfl (any_of HT_.out (by kernel_rfl)) (fun _ _ _ h => h) (Or.inl ⟨by rfl, ?_⟩) ?_ ?_
                                          rotate_left
                                          · intro w'
                                            go_simp
                                            with_reducible rfl
                                          rotate_left
                                          · simp only [Act.put, List.setIfInBounds_toArray, List.set_cons_zero, List.set_cons_succ, i64_w, i32_w]
                                            rfl
                                          refine pure_ (i := 3) (N := some 83) (v := ?_) (a' := ?_) #[true, true, true, true, false, false, false, false, false, false, false, false] rfl rfl (any_of HT_.out (by kernel_rfl)) (fun _ _ _ h => h) (Or.inl ⟨by rfl, ?_⟩) ?_ ?_
                                          rotate_left
                                          · intro w'
                                            go_simp
                                            with_reducible rfl
                                          rotate_left
                                          · simp only [Act.put, List.setIfInBounds_toArray, List.set_cons_zero, List.set_cons_succ, i64_w, i32_w]
                                            rfl
                                          refine pure_ (i := 4) (N := some 84) (v := ?_) (a' := ?_) #[true, true, true, true, true, false, false, false, false, false, false, false] rfl rfl (any_of HT_.out (by kernel_rfl)) (fun _ _ _ h => h) (Or.inl ⟨by rfl, ?_⟩) ?_ ?_
                                          rotate_left
                                          · intro w'
                                            go_simp
                                            with_reducible rfl
                                          rotate_left
                                          · simp only [Act.put, List.setIfInBounds_toArray, List.set_cons_zero, List.set_cons_succ, i64_w, i32_w]
                                            rfl
                                          refine pure_ (i := 5) (N := some 85) (v := ?_) (a' := ?_) #[true, true, true, true, true, true, false, false, false, false, false, false] rfl rfl (any_of HT_.out (by kernel_rfl)) (fun _ _ _ h => h) (Or.inl ⟨by rfl, ?_⟩) ?_ ?_
                                          rotate_left
                                          · intro w'
                                            go_simp
                                            with_reducible rfl
                                          rotate_left
                                          · simp only [Act.put, List.setIfInBounds_toArray, List.set_cons_zero, List.set_cons_succ, i64_w, i32_w]
                                            rfl
                                          refine pure_ (i := 6) (N := some 86) (v := ?_) (a' := ?_) #[true, true, true, true, true, true, true, false, false, false, false, false] rfl rfl (any_of HT_.out (by kernel_rfl)) (fun _ _ _ h => h) (Or.inl ⟨by rfl, ?_⟩) ?_ ?_
                                          rotate_left
                                          · intro w'
                                            go_simp
                                            with_reducible rfl
                                          rotate_left
                                          · simp only [Act.put, List.setIfInBounds_toArray, List.set_cons_zero, List.set_cons_succ, i64_w, i32_w]
                                            rfl
                                          refine pure_ (i := 7) (N := some 87) (v := ?_) (a' := ?_) #[true, true, true, true, true, true, true, true, false, false, false, false] rfl rfl (any_of HT_.out (by kernel_rfl)) (fun _ _ _ h => h) (Or.inl ⟨by rfl, ?_⟩) ?_ ?_
                                          rotate_left
                                          · intro w'
                                            go_simp
                                            with_reducible rfl
                                          rotate_left
                                          · simp only [Act.put, List.setIfInBounds_toArray, List.set_cons_zero, List.set_cons_succ, i64_w, i32_w]
                                            rfl
                                          refine take_ (i := 8) (N := some 88) (v := ?_) (a' := ?_) #[true, true, true, true, true, true, true, true, true, false, false, false] rfl rfl (take_ofW HT_.out HW_.out (by kernel_rfl)) (fun _ _ _ h => h) (Or.inl ⟨by rfl, ?_⟩) hHeld ?_ ?_
                                          rotate_left
                                          · rintro w' ⟨s0, s1, s2, s3, s4, s5, s6, s7, s8, s9, s10, s11, s12, s13, s14, s15⟩
                                            go_simp
                                            with_reducible rfl
                                          rotate_left
                                          · simp only [Act.put, List.setIfInBounds_toArray, List.set_cons_zero, List.set_cons_succ, i64_w, i32_w]
                                            rfl
                                          refine take_ (i := 9) (N := some 89) (v := ?_) (a' := ?_) #[true, true, true, true, true, true, true, true, true, true, false, false] rfl rfl (take_ofW HT_.out HW_.out (by kernel_rfl)) (fun _ _ _ h => h) (Or.inl ⟨by rfl, ?_⟩) hHeld ?_ ?_
                                          rotate_left
                                          · rintro w' ⟨s0, s1, s2, s3, s4, s5, s6, s7, s8, s9, s10, s11, s12, s13, s14, s15⟩
                                            go_simp
                                            with_reducible rfl
                                          rotate_left
                                          · simp only [Act.put, List.setIfInBounds_toArray, List.set_cons_zero, List.set_cons_succ, i64_w, i32_w]
                                            rfl
                                          refine one_ (i := 10) (N := some 90) #[true, true, true, true, true, true, true, true, true, true, true, false] rfl rfl (one_of HT_.out (by kernel_rfl)) (by decide) (fun K hK => ?_)
                                          refine goes_ Try.func30 (by kernel_rfl) rfl #[.agg #[.int .i64 ((rd_T24 x9_1 x14_4).f0), .string ((rd_T24 x9_1 x14_4).f1), .string ((rd_T24 x9_1 x14_4).f2), .int .i64 ((rd_T24 x9_1 x14_4).f3), .int .i64 ((rd_T24 x9_1 x14_4).f4), .int .i64 ((rd_T24 x9_1 x14_4).f5), .int .i64 ((rd_T24 x9_1 x14_4).f6), .bool ((rd_T24 x9_1 x14_4).f7)], .agg #[.int .i64 ((rd_T24 l0 x10_1).f0), .string ((rd_T24 l0 x10_1).f1), .string ((rd_T24 l0 x10_1).f2), .int .i64 ((rd_T24 l0 x10_1).f3), .int .i64 ((rd_T24 l0 x10_1).f4), .int .i64 ((rd_T24 l0 x10_1).f5), .int .i64 ((rd_T24 l0 x10_1).f6), .bool ((rd_T24 l0 x10_1).f7)]] (by rfl) rfl rfl (by (try simp only [List.map_toArray, List.map_cons, List.map_nil]); first | done | rfl | (simp only [List.length_drop, List.length_take]; rfl)) ?_
                                          with_reducible refine (wageofficeref31_before.calls ((rd_T24 x9_1 x14_4).f0) ((rd_T24 x9_1 x14_4).f1) ((rd_T24 x9_1 x14_4).f2) ((rd_T24 x9_1 x14_4).f3) ((rd_T24 x9_1 x14_4).f4) ((rd_T24 x9_1 x14_4).f5) ((rd_T24 x9_1 x14_4).f6) ((rd_T24 x9_1 x14_4).f7) ((rd_T24 l0 x10_1).f0) ((rd_T24 l0 x10_1).f1) ((rd_T24 l0 x10_1).f2) ((rd_T24 l0 x10_1).f3) ((rd_T24 l0 x10_1).f4) ((rd_T24 l0 x10_1).f5) ((rd_T24 l0 x10_1).f6) ((rd_T24 l0 x10_1).f7) false _ A31.out).mono ?_
                                          rintro e w45 ⟨rfl, hb⟩
                                          have HS8_ := (hb.cell (World.block_lt_of_cell? _ _ (hHeld.2.2.2.2.2.2.2.2.1))).trans (hHeld.2.2.2.2.2.2.2.2.1)
                                          have HS9_ := (hb.cell (World.block_lt_of_cell? _ _ (hHeld.2.2.2.2.2.2.2.2.2.1))).trans (hHeld.2.2.2.2.2.2.2.2.2.1)
                                          have HS10_ := (hb.cell (World.block_lt_of_cell? _ _ (hHeld.2.2.2.2.2.2.2.2.2.2.1))).trans (hHeld.2.2.2.2.2.2.2.2.2.2.1)
                                          have HS11_ := (hb.cell (World.block_lt_of_cell? _ _ (hHeld.2.2.2.2.2.2.2.2.2.2.2.1))).trans (hHeld.2.2.2.2.2.2.2.2.2.2.2.1)
                                          have HS12_ := (hb.cell (World.block_lt_of_cell? _ _ (hHeld.2.2.2.2.2.2.2.2.2.2.2.2.1))).trans (hHeld.2.2.2.2.2.2.2.2.2.2.2.2.1)
                                          have HS13_ := (hb.cell (World.block_lt_of_cell? _ _ (hHeld.2.2.2.2.2.2.2.2.2.2.2.2.2.1))).trans (hHeld.2.2.2.2.2.2.2.2.2.2.2.2.2.1)
                                          have HS14_ := (hb.cell (World.block_lt_of_cell? _ _ (hHeld.2.2.2.2.2.2.2.2.2.2.2.2.2.2.1))).trans (hHeld.2.2.2.2.2.2.2.2.2.2.2.2.2.2.1)
                                          have HS15_ := (hb.cell (World.block_lt_of_cell? _ _ (hHeld.2.2.2.2.2.2.2.2.2.2.2.2.2.2.2))).trans (hHeld.2.2.2.2.2.2.2.2.2.2.2.2.2.2.2)
                                          refine ⟨_, rfl, ?_⟩
                                          have n0_ := Aside0.mk (Kd.R_below (by (with_reducible repeat (first | apply Kd.R_alloc | apply Kd.R_drewN | apply Kd.R_drew)); exact HO_9.out) hb)
                                          have n1_ := Aside0.mk (blk_below (g := gb141) (o := .cells #[.int .i64 ((rd_T24 l0 x10_1).f0), .string ((rd_T24 l0 x10_1).f1), .string ((rd_T24 l0 x10_1).f2), .int .i64 ((rd_T24 l0 x10_1).f3), .int .i64 ((rd_T24 l0 x10_1).f4), .int .i64 ((rd_T24 l0 x10_1).f5), .int .i64 ((rd_T24 l0 x10_1).f6), .bool ((rd_T24 l0 x10_1).f7)] 24 (0, 0)) (by (with_reducible repeat (first | refine blk_drewN ?_ _ | refine blk_drew ?_ | refine blk_alloc ?_ _)); exact BK141.out) hb)
                                          have n2_ := Aside0.mk (below_step (by repeat (first | (with_reducible first | exact HB.out | apply below_alloc | apply pw_below_drewN | apply below_drew1 | refine below_set ?_ GE141.out) | exact HB.out)) hb)
                                          clear HO_9
                                          clear BK141
                                          clear HB
                                          have HO_9 := n0_
                                          have BK141 := n1_
                                          have HB := n2_
                                          clear n0_ n1_ n2_
                                          (try clear hb)
                                          (try clear hb2)
                                          (try clear hk)
                                          (try clear hi)
                                          refine hK.out _ _ ⟨(blk_cell BK141.out 0).trans rfl, (blk_cell BK141.out 1).trans rfl, (blk_cell BK141.out 2).trans rfl, (blk_cell BK141.out 3).trans rfl, (blk_cell BK141.out 4).trans rfl, (blk_cell BK141.out 5).trans rfl, (blk_cell BK141.out 6).trans rfl, (blk_cell BK141.out 7).trans rfl, HS8_, HS9_, HS10_, HS11_, HS12_, HS13_, HS14_, HS15_⟩ (fun hHeld => ?_)
                                          clear hK K
                                          refine norm_ (a' := ?_) ?_ ?_
                                          rotate_left
                                          · show Act.put _ (some 90) _ = _
                                            simp only [Act.put, List.setIfInBounds_toArray, List.set_cons_zero, List.set_cons_succ, i64_w, i32_w]
                                            rfl
                                          refine pure_ (i := 11) (N := some 91) (v := ?_) (a' := ?_) #[true, true, true, true, true, true, true, true, true, true, true, true] rfl rfl (any_of HT_.out (by kernel_rfl)) (fun _ _ _ h => h) (Or.inl ⟨by rfl, ?_⟩) ?_ ?_
                                          rotate_left
                                          · intro w'
                                            go_simp
                                            with_reducible rfl
                                          rotate_left
                                          · simp only [Act.put, List.setIfInBounds_toArray, List.set_cons_zero, List.set_cons_succ, i64_w, i32_w]
                                            rfl
                                          refine done_ (done_of HT_.out (by kernel_rfl)) ?_
                                          try go_wp2
                                          have n0_ := Aside0.mk (Kd.R_drew HO_9.out)
                                          have n1_ := Aside0.mk (blk_drew BK141.out)
                                          have n2_ := Aside0.mk (below_drew1 HB.out)
                                          clear HO_9
                                          clear BK141
                                          clear HB
                                          have HO_9 := n0_
                                          have BK141 := n1_
                                          have HB := n2_
                                          clear n0_ n1_ n2_
                                          have q47 : (x14_4 : Int) ≤ ((x9_1.length : Int) : Int) := of_decide_eq_true (by first | (with_reducible assumption) | assumption)
                                          obtain ⟨i047, hi047, _, hsz47, _⟩ := info_parts info24
                                          have hroom47 : x9_1.length ≤ co44 := (Kd.R_reads' HO_9.out).2.1
                                          have hC47 : Kd.C k24 _ (some ad144) x9_1.length x9_1 := (Kd.R_reads' HO_9.out).2.2
                                          have hcut47 := cut_to (P := Try.prog) 22 24 .i64 Try.underlying22 hi047 (some ad144) x9_1.length co44 x14_4 (of_decide_eq_true (by first | (with_reducible assumption) | assumption)) q47 hroom47
                                          have hr47 := Kd.C_take (m := (x14_4 : Int).toNat) hC47 (by omega)
                                          have hy47 : y146.length = (x14_4 : Int).toNat := (by rw [Ny146.out, List.length_take]; omega)
                                          rw [← Ny146.out] at hr47
                                          rw [← hy47] at hcut47
                                          have HR149 := Aside0.mk hr47
                                          have HC149 := Aside0.mk (show y146.length ≤ co44 from by omega)
                                          clear hr47 hC47 hroom47 hi047 hsz47
                                          have KY47 := Aside0.mk hy47
                                          clear hy47
                                          have KL47 := Aside0.mk (show (x14_4 : Int).toNat ≤ x9_1.length from by omega)
                                          replace q47 := eq_true q47
                                          refine start_ (n := 9) (S := fun w' => w'.cell? ⟨gb141, 0, none⟩ = some (.int .i64 ((rd_T24 l0 x10_1).f0)) ∧ w'.cell? ⟨gb141, 1, none⟩ = some (.string ((rd_T24 l0 x10_1).f1)) ∧ w'.cell? ⟨gb141, 2, none⟩ = some (.string ((rd_T24 l0 x10_1).f2)) ∧ w'.cell? ⟨gb141, 3, none⟩ = some (.int .i64 ((rd_T24 l0 x10_1).f3)) ∧ w'.cell? ⟨gb141, 4, none⟩ = some (.int .i64 ((rd_T24 l0 x10_1).f4)) ∧ w'.cell? ⟨gb141, 5, none⟩ = some (.int .i64 ((rd_T24 l0 x10_1).f5)) ∧ w'.cell? ⟨gb141, 6, none⟩ = some (.int .i64 ((rd_T24 l0 x10_1).f6)) ∧ w'.cell? ⟨gb141, 7, none⟩ = some (.bool ((rd_T24 l0 x10_1).f7))) (ds := []) #[false, false, false, false, false, false, false, false, false] (by kernel_rfl) rfl rfl ⟨(blk_cell BK141.out 0).trans rfl, (blk_cell BK141.out 1).trans rfl, (blk_cell BK141.out 2).trans rfl, (blk_cell BK141.out 3).trans rfl, (blk_cell BK141.out 4).trans rfl, (blk_cell BK141.out 5).trans rfl, (blk_cell BK141.out 6).trans rfl, (blk_cell BK141.out 7).trans rfl⟩ (fun hHeld => ?_); refine with_tabW wageofficeref31_Open.tab19 wageofficeref31_Open.bits19 (fun HT_ HW_ => ?_)
                                          generalize w45.drew = w46 at HO_9 BK141 HB HR149 hHeld ⊢
                                          refine pure_ (i := 0) (N := some 94) (v := ?_) (a' := ?_) #[true, false, false, false, false, false, false, false, false] rfl rfl (any_of HT_.out (by kernel_rfl)) (fun _ _ _ h => h) (Or.inl ⟨by rfl, ?_⟩) ?_ ?_
                                          rotate_left
                                          · intro w'
                                            go_simp
                                            with_reducible rfl
                                          rotate_left
                                          · simp only [Act.put, List.setIfInBounds_toArray, List.set_cons_zero, List.set_cons_succ, i64_w, i32_w]
                                            rfl
                                          refine pure_ (i := 1) (N := some 95) (v := ?_) (a' := ?_) #[true, true, false, false, false, false, false, false, false] rfl rfl (any_of HT_.out (by kernel_rfl)) (fun _ _ _ h => h) (Or.inl ⟨by rfl, ?_⟩) ?_ ?_
                                          rotate_left
                                          · intro w'
                                            go_simp
                                            with_reducible rfl
                                          rotate_left
                                          · simp only [Act.put, List.setIfInBounds_toArray, List.set_cons_zero, List.set_cons_succ, i64_w, i32_w]
                                            rfl
                                          refine pure_ (i := 2) (N := some 96) (v := ?_) (a' := ?_) #[true, true, true, false, false, false, false, false, false] rfl rfl (any_of HT_.out (by kernel_rfl)) (fun _ _ _ h => h) (Or.inl ⟨by rfl, ?_⟩) ?_ ?_
                                          rotate_left
                                          · intro w'
                                            go_simp
                                            with_reducible rfl
                                          rotate_left
                                          · simp only [Act.put, List.setIfInBounds_toArray, List.set_cons_zero, List.set_cons_succ, i64_w, i32_w]
                                            rfl
                                          refine pure_ (i := 3) (N := some 97) (v := ?_) (a' := ?_) #[true, true, true, true, false, false, false, false, false] rfl rfl (any_of HT_.out (by kernel_rfl)) (fun _ _ _ h => h) (Or.inl ⟨by rfl, ?_⟩) ?_ ?_
                                          rotate_left
                                          · intro w'
                                            go_simp
                                            with_reducible rfl
                                          rotate_left
                                          · simp only [Act.put, List.setIfInBounds_toArray, List.set_cons_zero, List.set_cons_succ, i64_w, i32_w]
                                            rfl
                                          refine take_ (i := 5) (N := some 99) (v := ?_) (a' := ?_) #[true, true, true, true, false, true, false, false, false] rfl rfl (take_ofW HT_.out HW_.out (by kernel_rfl)) (fun _ _ _ h => h) (Or.inl ⟨by rfl, ?_⟩) hHeld ?_ ?_
                                          rotate_left
                                          · rintro w' ⟨s0, s1, s2, s3, s4, s5, s6, s7⟩
                                            go_simp
                                            with_reducible rfl
                                          rotate_left
                                          · simp only [Act.put, List.setIfInBounds_toArray, List.set_cons_zero, List.set_cons_succ, i64_w, i32_w]
                                            rfl
                                          refine join_ (σ := Value × Value) 2 #[true, true, true, true, true, true, true, false, false] (fun s_ => [(98, s_.1), (100, s_.2)]) (fun s_ w' => (w'.cell? ⟨gb141, 0, none⟩ = some (.int .i64 ((rd_T24 l0 x10_1).f0)) ∧ w'.cell? ⟨gb141, 1, none⟩ = some (.string ((rd_T24 l0 x10_1).f1)) ∧ w'.cell? ⟨gb141, 2, none⟩ = some (.string ((rd_T24 l0 x10_1).f2)) ∧ w'.cell? ⟨gb141, 3, none⟩ = some (.int .i64 ((rd_T24 l0 x10_1).f3)) ∧ w'.cell? ⟨gb141, 4, none⟩ = some (.int .i64 ((rd_T24 l0 x10_1).f4)) ∧ w'.cell? ⟨gb141, 5, none⟩ = some (.int .i64 ((rd_T24 l0 x10_1).f5)) ∧ w'.cell? ⟨gb141, 6, none⟩ = some (.int .i64 ((rd_T24 l0 x10_1).f6)) ∧ w'.cell? ⟨gb141, 7, none⟩ = some (.bool ((rd_T24 l0 x10_1).f7))) ∧ (Kd.R k24 24 w' w.heap.size (fun k_ => some k_ ≠ (s_.2 : Value).ownBlock ∧ some k_ ≠ (.slice (some ad144) x9_1.length co44 : Value).ownBlock ∧ k_ ≠ gb141) s_.1 y150) ∧ (Kd.R k24 24 w' w.heap.size (fun k_ => some k_ ≠ (s_.1 : Value).ownBlock ∧ some k_ ≠ (.slice (some ad144) x9_1.length co44 : Value).ownBlock ∧ k_ ≠ gb141) s_.2 y153) ∧ (Kd.R k24 24 w' w.heap.size (fun k_ => some k_ ≠ (s_.1 : Value).ownBlock ∧ some k_ ≠ (s_.2 : Value).ownBlock ∧ k_ ≠ gb141) (.slice (some ad144) x9_1.length co44) x9_1) ∧ (w'.heap[gb141]? = some (.cells #[.int .i64 ((rd_T24 l0 x10_1).f0), .string ((rd_T24 l0 x10_1).f1), .string ((rd_T24 l0 x10_1).f2), .int .i64 ((rd_T24 l0 x10_1).f3), .int .i64 ((rd_T24 l0 x10_1).f4), .int .i64 ((rd_T24 l0 x10_1).f5), .int .i64 ((rd_T24 l0 x10_1).f6), .bool ((rd_T24 l0 x10_1).f7)] 24 (0, 0))) ∧ (Below w.heap.size w w')) ?_ ?_
                                          rotate_left
                                          · intro hCont
                                            refine two_ (i := 4) (j := 6) (Ni := some 98) (Nj := some 100) #[true, true, true, true, true, true, false, false, false] #[true, true, true, true, false, true, true, false, false] rfl rfl rfl rfl (two_of HT_.out (by kernel_rfl)) (by decide) (by decide) (fun K hK => ?_) (fun K hK => ?_)
                                            · skip
                                              refine Kd.R_append_rows_step k24 (w0 := w) w.heap.size (by rfl) (.tmp 94) (.tmp 97) 22 24 (.agg #[(.int .i64 0), (.string ⟨#[]⟩), (.string ⟨#[]⟩), (.int .i64 0), (.int .i64 0), (.int .i64 0), (.int .i64 0), (.bool false)]) 80 rfl Try.underlying22 info24 rfl (by decide) (by omega) (.slice none 0 0) ([] : List (S24)) y146 _ _ _ (fun k_ => some k_ ≠ (.slice (some ad144) x9_1.length co44 : Value).ownBlock ∧ k_ ≠ gb141) (fun _ => False) rfl rfl ?aO ?aR (fun _ _ h => h) (fun _ h => h.elim) ?aF ?aB ?aS ?aL ?_
                                              (case aR => repeat (first | exact (by repeat (first | (with_reducible exact HR149.out) | (with_reducible refine Kd.C_alloc ?_ _) | (with_reducible refine Kd.C_drewN ?_ _) | (with_reducible refine Kd.C_drew ?_) | exact HR149.out)) | (with_reducible refine Kd.C_alloc ?_ _) | (with_reducible refine Kd.C_drewN ?_ _) | (with_reducible refine Kd.C_drew ?_)))
                                              (case aB => exact (by repeat (first | (with_reducible first | exact HB.out | apply below_alloc | apply pw_below_drewN | apply below_drew1 | refine below_set ?_ GE141.out) | exact HB.out)))
                                              (case aF => exact (fun k_ hk => ⟨Kd.fresh' (Kd.R_lt (by (with_reducible repeat (first | apply Kd.R_alloc | apply Kd.R_drewN | apply Kd.R_drew)); exact HO_9.out)) k_ hk, Kd.freshB (g := gb141) (o := .cells #[.int .i64 ((rd_T24 l0 x10_1).f0), .string ((rd_T24 l0 x10_1).f1), .string ((rd_T24 l0 x10_1).f2), .int .i64 ((rd_T24 l0 x10_1).f3), .int .i64 ((rd_T24 l0 x10_1).f4), .int .i64 ((rd_T24 l0 x10_1).f5), .int .i64 ((rd_T24 l0 x10_1).f6), .bool ((rd_T24 l0 x10_1).f7)] 24 (0, 0)) (by (with_reducible repeat (first | refine blk_drewN ?_ _ | refine blk_drew ?_ | refine blk_alloc ?_ _)); exact BK141.out) k_ hk⟩))
                                              (case aO => exact ((Kd.R_nil _ _ _ _ (fun k_ => some k_ ≠ (.slice (some ad144) x9_1.length co44 : Value).ownBlock ∧ k_ ≠ gb141))))
                                              (case aS => exact (below_size (by repeat (first | (with_reducible first | exact HB.out | apply below_alloc | apply pw_below_drewN | apply below_drew1 | refine below_set ?_ GE141.out) | exact HB.out))))
                                              (case aL => have := LMc38.out; omega)
                                              intro v151 w48 ho hb hg hat
                                              rw [← Ny150.out] at ho
                                              have n0_ := Aside0.mk (Kd.R_after (Kd.R_apart_nil (by (with_reducible repeat (first | apply Kd.R_alloc | apply Kd.R_drewN | apply Kd.R_drew)); exact HO_9.out)) hg hat)
                                              have n1_ := Aside0.mk (blk_grown (g := gb141) (o := .cells #[.int .i64 ((rd_T24 l0 x10_1).f0), .string ((rd_T24 l0 x10_1).f1), .string ((rd_T24 l0 x10_1).f2), .int .i64 ((rd_T24 l0 x10_1).f3), .int .i64 ((rd_T24 l0 x10_1).f4), .int .i64 ((rd_T24 l0 x10_1).f5), .int .i64 ((rd_T24 l0 x10_1).f6), .bool ((rd_T24 l0 x10_1).f7)] 24 (0, 0)) (by (with_reducible repeat (first | refine blk_drewN ?_ _ | refine blk_drew ?_ | refine blk_alloc ?_ _)); exact BK141.out) hg (by simp [Value.ownBlock]))
                                              have n2_ := Aside0.mk (hb)
                                              have n3_ := Aside0.mk ((show Kd.C k24 w48 (some ad144) y146.length y146 from by rw [Ny146.out]; exact Kd.C_take (m := (x14_4 : Int).toNat) ((Kd.R_reads' (Kd.R_after (Kd.R_apart_nil (by (with_reducible repeat (first | apply Kd.R_alloc | apply Kd.R_drewN | apply Kd.R_drew)); exact HO_9.out)) hg hat)).2.2) KL47.out))
                                              have n4_ := Aside0.mk (ho)
                                              clear HO_9
                                              clear BK141
                                              clear HB
                                              clear HR149
                                              have HO_9 := n0_
                                              have BK141 := n1_
                                              have HB := n2_
                                              have HR149 := n3_
                                              have HO152 := n4_
                                              clear n0_ n1_ n2_ n3_ n4_
                                              clear ho hb hg hat
                                              refine hK.out _ _ ⟨(blk_cell BK141.out 0).trans rfl, (blk_cell BK141.out 1).trans rfl, (blk_cell BK141.out 2).trans rfl, (blk_cell BK141.out 3).trans rfl, (blk_cell BK141.out 4).trans rfl, (blk_cell BK141.out 5).trans rfl, (blk_cell BK141.out 6).trans rfl, (blk_cell BK141.out 7).trans rfl⟩ (fun hHeld => ?_)
                                              clear hK K
                                              refine norm_ (a' := ?_) ?_ ?_
                                              rotate_left
                                              · show Act.put _ (some 98) _ = _
                                                simp only [Act.put, List.setIfInBounds_toArray, List.set_cons_zero, List.set_cons_succ, i64_w, i32_w]
                                                rfl
                                              refine one_ (i := 6) (N := some 100) #[true, true, true, true, true, true, true, false, false] rfl rfl (one_of HT_.out (by kernel_rfl)) (by decide) (fun K hK => ?_)
                                              refine Kd.R_lit_step k24 _ 24 ?hg (N := 100) ?hd (xs := ([(⟨((rd_T24 l0 x10_1).f0), ((rd_T24 l0 x10_1).f1), ((rd_T24 l0 x10_1).f2), ((rd_T24 l0 x10_1).f3), ((rd_T24 l0 x10_1).f4), ((rd_T24 l0 x10_1).f5), ((rd_T24 l0 x10_1).f6), ((rd_T24 l0 x10_1).f7)⟩ : S24)] : List (S24))) (inner := [.int .i64 ((rd_T24 l0 x10_1).f0), .string ((rd_T24 l0 x10_1).f1), .string ((rd_T24 l0 x10_1).f2), .int .i64 ((rd_T24 l0 x10_1).f3), .int .i64 ((rd_T24 l0 x10_1).f4), .int .i64 ((rd_T24 l0 x10_1).f5), .int .i64 ((rd_T24 l0 x10_1).f6), .bool ((rd_T24 l0 x10_1).f7)]) (ok := fun _ => True) (okp := fun _ => True) ?hr ?hp (fun _ hk => hk) trivial (Below.refl _ _) (Nat.le_refl _) (by simp) ?_; (case hd => rfl); (case hg => rfl); (case hr => first | (go_simp; done) | (go_simp; rfl)); (case hp => exact (Reps.c8 (show Kd.M k24 _ _ _ (⟨((rd_T24 l0 x10_1).f0), ((rd_T24 l0 x10_1).f1), ((rd_T24 l0 x10_1).f2), ((rd_T24 l0 x10_1).f3), ((rd_T24 l0 x10_1).f4), ((rd_T24 l0 x10_1).f5), ((rd_T24 l0 x10_1).f6), ((rd_T24 l0 x10_1).f7)⟩ : S24) [.int .i64 ((rd_T24 l0 x10_1).f0), .string ((rd_T24 l0 x10_1).f1), .string ((rd_T24 l0 x10_1).f2), .int .i64 ((rd_T24 l0 x10_1).f3), .int .i64 ((rd_T24 l0 x10_1).f4), .int .i64 ((rd_T24 l0 x10_1).f5), .int .i64 ((rd_T24 l0 x10_1).f6), .bool ((rd_T24 l0 x10_1).f7)] from (k24_mkM _ _ _ (⟨((rd_T24 l0 x10_1).f0), ((rd_T24 l0 x10_1).f1), ((rd_T24 l0 x10_1).f2), ((rd_T24 l0 x10_1).f3), ((rd_T24 l0 x10_1).f4), ((rd_T24 l0 x10_1).f5), ((rd_T24 l0 x10_1).f6), ((rd_T24 l0 x10_1).f7)⟩ : S24) )) (Reps.none _ _)))
                                              intro v154 w49 ho50 hb hg_ hnew_
                                              clear hg_ hnew_
                                              (first | rw [← Ny153.out] at ho50 | (simp only [Int.reduceToNat] at ho50; rw [← Ny153.out] at ho50))
                                              have n0_ := Aside0.mk (Kd.R_elder' (by (with_reducible repeat (first | apply Kd.R_alloc | apply Kd.R_drewN | apply Kd.R_drew)); exact HO_9.out) (Kd.R_base ho50) hb)
                                              have n1_ := Aside0.mk (Kd.R_elder' (by (with_reducible repeat (first | apply Kd.R_alloc | apply Kd.R_drewN | apply Kd.R_drew)); exact HO152.out) (Kd.R_base ho50) hb)
                                              have n2_ := Aside0.mk (Kd.R_lower (Kd.R_newB (Kd.R_new' (Kd.R_new' ho50 (Kd.R_lt (by (with_reducible repeat (first | apply Kd.R_alloc | apply Kd.R_drewN | apply Kd.R_drew)); exact HO_9.out))) (Kd.R_lt (by (with_reducible repeat (first | apply Kd.R_alloc | apply Kd.R_drewN | apply Kd.R_drew)); exact HO152.out))) (g := gb141) (o := .cells #[.int .i64 ((rd_T24 l0 x10_1).f0), .string ((rd_T24 l0 x10_1).f1), .string ((rd_T24 l0 x10_1).f2), .int .i64 ((rd_T24 l0 x10_1).f3), .int .i64 ((rd_T24 l0 x10_1).f4), .int .i64 ((rd_T24 l0 x10_1).f5), .int .i64 ((rd_T24 l0 x10_1).f6), .bool ((rd_T24 l0 x10_1).f7)] 24 (0, 0)) (by (with_reducible repeat (first | refine blk_drewN ?_ _ | refine blk_drew ?_ | refine blk_alloc ?_ _)); exact BK141.out)) (below_size (by repeat (first | (with_reducible first | exact HB.out | apply below_alloc | apply pw_below_drewN | apply below_drew1 | refine below_set ?_ GE141.out) | exact HB.out))))
                                              have n3_ := Aside0.mk (blk_below (g := gb141) (o := .cells #[.int .i64 ((rd_T24 l0 x10_1).f0), .string ((rd_T24 l0 x10_1).f1), .string ((rd_T24 l0 x10_1).f2), .int .i64 ((rd_T24 l0 x10_1).f3), .int .i64 ((rd_T24 l0 x10_1).f4), .int .i64 ((rd_T24 l0 x10_1).f5), .int .i64 ((rd_T24 l0 x10_1).f6), .bool ((rd_T24 l0 x10_1).f7)] 24 (0, 0)) (by (with_reducible repeat (first | refine blk_drewN ?_ _ | refine blk_drew ?_ | refine blk_alloc ?_ _)); exact BK141.out) hb)
                                              have n4_ := Aside0.mk (Kd.C_below (by repeat (first | (with_reducible exact HR149.out) | (with_reducible refine Kd.C_alloc ?_ _) | (with_reducible refine Kd.C_drewN ?_ _) | (with_reducible refine Kd.C_drew ?_) | exact HR149.out)) hb)
                                              have n5_ := Aside0.mk (below_step (by repeat (first | (with_reducible first | exact HB.out | apply below_alloc | apply pw_below_drewN | apply below_drew1 | refine below_set ?_ GE141.out) | exact HB.out)) hb)
                                              clear HO_9
                                              clear HO152
                                              clear BK141
                                              clear HR149
                                              clear HB
                                              have HO_9 := n0_
                                              have HO152 := n1_
                                              have HO155 := n2_
                                              have BK141 := n3_
                                              have HR149 := n4_
                                              have HB := n5_
                                              clear n0_ n1_ n2_ n3_ n4_ n5_
                                              clear hb ho50
                                              refine hK.out _ _ ⟨(blk_cell BK141.out 0).trans rfl, (blk_cell BK141.out 1).trans rfl, (blk_cell BK141.out 2).trans rfl, (blk_cell BK141.out 3).trans rfl, (blk_cell BK141.out 4).trans rfl, (blk_cell BK141.out 5).trans rfl, (blk_cell BK141.out 6).trans rfl, (blk_cell BK141.out 7).trans rfl⟩ (fun hHeld => ?_)
                                              clear hK K
                                              refine norm_ (a' := ?_) ?_ ?_
                                              rotate_left
                                              · show Act.put _ (some 100) _ = _
                                                simp only [Act.put, List.setIfInBounds_toArray, List.set_cons_zero, List.set_cons_succ, i64_w, i32_w]
                                                rfl
                                              exact norm_ (by simp only [putAll, Act.put, List.setIfInBounds_toArray, List.set_cons_zero, List.set_cons_succ]) (hCont (v151, v154) _ ⟨hHeld, (by (with_reducible repeat (first | apply Kd.R_alloc | apply Kd.R_drewN | apply Kd.R_drew)); exact Kd.R_mono HO152.out (fun _ hk => ⟨hk.2, ⟨hk.1.1, hk.1.2⟩⟩)), (by (with_reducible repeat (first | apply Kd.R_alloc | apply Kd.R_drewN | apply Kd.R_drew)); exact Kd.R_mono HO155.out (fun _ hk => ⟨hk.1.2, ⟨hk.1.1.2, hk.2⟩⟩)), (by (with_reducible repeat (first | apply Kd.R_alloc | apply Kd.R_drewN | apply Kd.R_drew)); exact Kd.R_mono HO_9.out (fun _ hk => ⟨hk.1.2, ⟨hk.2, hk.1.1⟩⟩)), (by (with_reducible repeat (first | refine blk_drewN ?_ _ | refine blk_drew ?_ | refine blk_alloc ?_ _)); exact BK141.out), (by repeat (first | (with_reducible first | exact HB.out | apply below_alloc | apply pw_below_drewN | apply below_drew1 | refine below_set ?_ GE141.out) | exact HB.out))⟩)
                                            · skip
                                              refine Kd.R_lit_step k24 _ 24 ?hg (N := 100) ?hd (xs := ([(⟨((rd_T24 l0 x10_1).f0), ((rd_T24 l0 x10_1).f1), ((rd_T24 l0 x10_1).f2), ((rd_T24 l0 x10_1).f3), ((rd_T24 l0 x10_1).f4), ((rd_T24 l0 x10_1).f5), ((rd_T24 l0 x10_1).f6), ((rd_T24 l0 x10_1).f7)⟩ : S24)] : List (S24))) (inner := [.int .i64 ((rd_T24 l0 x10_1).f0), .string ((rd_T24 l0 x10_1).f1), .string ((rd_T24 l0 x10_1).f2), .int .i64 ((rd_T24 l0 x10_1).f3), .int .i64 ((rd_T24 l0 x10_1).f4), .int .i64 ((rd_T24 l0 x10_1).f5), .int .i64 ((rd_T24 l0 x10_1).f6), .bool ((rd_T24 l0 x10_1).f7)]) (ok := fun _ => True) (okp := fun _ => True) ?hr ?hp (fun _ hk => hk) trivial (Below.refl _ _) (Nat.le_refl _) (by simp) ?_; (case hd => rfl); (case hg => rfl); (case hr => first | (go_simp; done) | (go_simp; rfl)); (case hp => exact (Reps.c8 (show Kd.M k24 _ _ _ (⟨((rd_T24 l0 x10_1).f0), ((rd_T24 l0 x10_1).f1), ((rd_T24 l0 x10_1).f2), ((rd_T24 l0 x10_1).f3), ((rd_T24 l0 x10_1).f4), ((rd_T24 l0 x10_1).f5), ((rd_T24 l0 x10_1).f6), ((rd_T24 l0 x10_1).f7)⟩ : S24) [.int .i64 ((rd_T24 l0 x10_1).f0), .string ((rd_T24 l0 x10_1).f1), .string ((rd_T24 l0 x10_1).f2), .int .i64 ((rd_T24 l0 x10_1).f3), .int .i64 ((rd_T24 l0 x10_1).f4), .int .i64 ((rd_T24 l0 x10_1).f5), .int .i64 ((rd_T24 l0 x10_1).f6), .bool ((rd_T24 l0 x10_1).f7)] from (k24_mkM _ _ _ (⟨((rd_T24 l0 x10_1).f0), ((rd_T24 l0 x10_1).f1), ((rd_T24 l0 x10_1).f2), ((rd_T24 l0 x10_1).f3), ((rd_T24 l0 x10_1).f4), ((rd_T24 l0 x10_1).f5), ((rd_T24 l0 x10_1).f6), ((rd_T24 l0 x10_1).f7)⟩ : S24) )) (Reps.none _ _)))
                                              intro v154 w48 ho49 hb hg_ hnew_
                                              clear hg_ hnew_
                                              (first | rw [← Ny153.out] at ho49 | (simp only [Int.reduceToNat] at ho49; rw [← Ny153.out] at ho49))
                                              have n0_ := Aside0.mk (Kd.R_elder' (by (with_reducible repeat (first | apply Kd.R_alloc | apply Kd.R_drewN | apply Kd.R_drew)); exact HO_9.out) (Kd.R_base ho49) hb)
                                              have n1_ := Aside0.mk (Kd.R_lower (Kd.R_newB (Kd.R_new' ho49 (Kd.R_lt (by (with_reducible repeat (first | apply Kd.R_alloc | apply Kd.R_drewN | apply Kd.R_drew)); exact HO_9.out))) (g := gb141) (o := .cells #[.int .i64 ((rd_T24 l0 x10_1).f0), .string ((rd_T24 l0 x10_1).f1), .string ((rd_T24 l0 x10_1).f2), .int .i64 ((rd_T24 l0 x10_1).f3), .int .i64 ((rd_T24 l0 x10_1).f4), .int .i64 ((rd_T24 l0 x10_1).f5), .int .i64 ((rd_T24 l0 x10_1).f6), .bool ((rd_T24 l0 x10_1).f7)] 24 (0, 0)) (by (with_reducible repeat (first | refine blk_drewN ?_ _ | refine blk_drew ?_ | refine blk_alloc ?_ _)); exact BK141.out)) (below_size (by repeat (first | (with_reducible first | exact HB.out | apply below_alloc | apply pw_below_drewN | apply below_drew1 | refine below_set ?_ GE141.out) | exact HB.out))))
                                              have n2_ := Aside0.mk (blk_below (g := gb141) (o := .cells #[.int .i64 ((rd_T24 l0 x10_1).f0), .string ((rd_T24 l0 x10_1).f1), .string ((rd_T24 l0 x10_1).f2), .int .i64 ((rd_T24 l0 x10_1).f3), .int .i64 ((rd_T24 l0 x10_1).f4), .int .i64 ((rd_T24 l0 x10_1).f5), .int .i64 ((rd_T24 l0 x10_1).f6), .bool ((rd_T24 l0 x10_1).f7)] 24 (0, 0)) (by (with_reducible repeat (first | refine blk_drewN ?_ _ | refine blk_drew ?_ | refine blk_alloc ?_ _)); exact BK141.out) hb)
                                              have n3_ := Aside0.mk (Kd.C_below (by repeat (first | (with_reducible exact HR149.out) | (with_reducible refine Kd.C_alloc ?_ _) | (with_reducible refine Kd.C_drewN ?_ _) | (with_reducible refine Kd.C_drew ?_) | exact HR149.out)) hb)
                                              have n4_ := Aside0.mk (below_step (by repeat (first | (with_reducible first | exact HB.out | apply below_alloc | apply pw_below_drewN | apply below_drew1 | refine below_set ?_ GE141.out) | exact HB.out)) hb)
                                              clear HO_9
                                              clear BK141
                                              clear HR149
                                              clear HB
                                              have HO_9 := n0_
                                              have HO155 := n1_
                                              have BK141 := n2_
                                              have HR149 := n3_
                                              have HB := n4_
                                              clear n0_ n1_ n2_ n3_ n4_
                                              clear hb ho49
                                              refine hK.out _ _ ⟨(blk_cell BK141.out 0).trans rfl, (blk_cell BK141.out 1).trans rfl, (blk_cell BK141.out 2).trans rfl, (blk_cell BK141.out 3).trans rfl, (blk_cell BK141.out 4).trans rfl, (blk_cell BK141.out 5).trans rfl, (blk_cell BK141.out 6).trans rfl, (blk_cell BK141.out 7).trans rfl⟩ (fun hHeld => ?_)
                                              clear hK K
                                              refine norm_ (a' := ?_) ?_ ?_
                                              rotate_left
                                              · show Act.put _ (some 100) _ = _
                                                simp only [Act.put, List.setIfInBounds_toArray, List.set_cons_zero, List.set_cons_succ, i64_w, i32_w]
                                                rfl
                                              refine one_ (i := 4) (N := some 98) #[true, true, true, true, true, true, true, false, false] rfl rfl (one_of HT_.out (by kernel_rfl)) (by decide) (fun K hK => ?_)
                                              refine Kd.R_append_rows_step k24 (w0 := w) w.heap.size (by rfl) (.tmp 94) (.tmp 97) 22 24 (.agg #[(.int .i64 0), (.string ⟨#[]⟩), (.string ⟨#[]⟩), (.int .i64 0), (.int .i64 0), (.int .i64 0), (.int .i64 0), (.bool false)]) 80 rfl Try.underlying22 info24 rfl (by decide) (by omega) (.slice none 0 0) ([] : List (S24)) y146 _ _ _ (fun k_ => some k_ ≠ (.slice (some ad144) x9_1.length co44 : Value).ownBlock ∧ some k_ ≠ (v154 : Value).ownBlock ∧ k_ ≠ gb141) (fun _ => False) rfl rfl ?aO ?aR (fun _ _ h => h) (fun _ h => h.elim) ?aF ?aB ?aS ?aL ?_
                                              (case aR => repeat (first | exact (by repeat (first | (with_reducible exact HR149.out) | (with_reducible refine Kd.C_alloc ?_ _) | (with_reducible refine Kd.C_drewN ?_ _) | (with_reducible refine Kd.C_drew ?_) | exact HR149.out)) | (with_reducible refine Kd.C_alloc ?_ _) | (with_reducible refine Kd.C_drewN ?_ _) | (with_reducible refine Kd.C_drew ?_)))
                                              (case aB => exact (by repeat (first | (with_reducible first | exact HB.out | apply below_alloc | apply pw_below_drewN | apply below_drew1 | refine below_set ?_ GE141.out) | exact HB.out)))
                                              (case aF => exact (fun k_ hk => ⟨Kd.fresh' (Kd.R_lt (by (with_reducible repeat (first | apply Kd.R_alloc | apply Kd.R_drewN | apply Kd.R_drew)); exact HO_9.out)) k_ hk, Kd.fresh' (Kd.R_lt (by (with_reducible repeat (first | apply Kd.R_alloc | apply Kd.R_drewN | apply Kd.R_drew)); exact HO155.out)) k_ hk, Kd.freshB (g := gb141) (o := .cells #[.int .i64 ((rd_T24 l0 x10_1).f0), .string ((rd_T24 l0 x10_1).f1), .string ((rd_T24 l0 x10_1).f2), .int .i64 ((rd_T24 l0 x10_1).f3), .int .i64 ((rd_T24 l0 x10_1).f4), .int .i64 ((rd_T24 l0 x10_1).f5), .int .i64 ((rd_T24 l0 x10_1).f6), .bool ((rd_T24 l0 x10_1).f7)] 24 (0, 0)) (by (with_reducible repeat (first | refine blk_drewN ?_ _ | refine blk_drew ?_ | refine blk_alloc ?_ _)); exact BK141.out) k_ hk⟩))
                                              (case aO => exact ((Kd.R_nil _ _ _ _ (fun k_ => some k_ ≠ (.slice (some ad144) x9_1.length co44 : Value).ownBlock ∧ some k_ ≠ (v154 : Value).ownBlock ∧ k_ ≠ gb141))))
                                              (case aS => exact (below_size (by repeat (first | (with_reducible first | exact HB.out | apply below_alloc | apply pw_below_drewN | apply below_drew1 | refine below_set ?_ GE141.out) | exact HB.out))))
                                              (case aL => have := LMc38.out; omega)
                                              intro v151 w50 ho hb hg hat
                                              rw [← Ny150.out] at ho
                                              have n0_ := Aside0.mk (Kd.R_after (Kd.R_apart_nil (by (with_reducible repeat (first | apply Kd.R_alloc | apply Kd.R_drewN | apply Kd.R_drew)); exact HO_9.out)) hg hat)
                                              have n1_ := Aside0.mk (blk_grown (g := gb141) (o := .cells #[.int .i64 ((rd_T24 l0 x10_1).f0), .string ((rd_T24 l0 x10_1).f1), .string ((rd_T24 l0 x10_1).f2), .int .i64 ((rd_T24 l0 x10_1).f3), .int .i64 ((rd_T24 l0 x10_1).f4), .int .i64 ((rd_T24 l0 x10_1).f5), .int .i64 ((rd_T24 l0 x10_1).f6), .bool ((rd_T24 l0 x10_1).f7)] 24 (0, 0)) (by (with_reducible repeat (first | refine blk_drewN ?_ _ | refine blk_drew ?_ | refine blk_alloc ?_ _)); exact BK141.out) hg (by simp [Value.ownBlock]))
                                              have n2_ := Aside0.mk (Kd.R_after (Kd.R_apart_nil (by (with_reducible repeat (first | apply Kd.R_alloc | apply Kd.R_drewN | apply Kd.R_drew)); exact HO155.out)) hg hat)
                                              have n3_ := Aside0.mk (hb)
                                              have n4_ := Aside0.mk ((show Kd.C k24 w50 (some ad144) y146.length y146 from by rw [Ny146.out]; exact Kd.C_take (m := (x14_4 : Int).toNat) ((Kd.R_reads' (Kd.R_after (Kd.R_apart_nil (by (with_reducible repeat (first | apply Kd.R_alloc | apply Kd.R_drewN | apply Kd.R_drew)); exact HO_9.out)) hg hat)).2.2) KL47.out))
                                              have n5_ := Aside0.mk (ho)
                                              clear HO_9
                                              clear BK141
                                              clear HO155
                                              clear HB
                                              clear HR149
                                              have HO_9 := n0_
                                              have BK141 := n1_
                                              have HO155 := n2_
                                              have HB := n3_
                                              have HR149 := n4_
                                              have HO152 := n5_
                                              clear n0_ n1_ n2_ n3_ n4_ n5_
                                              clear ho hb hg hat
                                              refine hK.out _ _ ⟨(blk_cell BK141.out 0).trans rfl, (blk_cell BK141.out 1).trans rfl, (blk_cell BK141.out 2).trans rfl, (blk_cell BK141.out 3).trans rfl, (blk_cell BK141.out 4).trans rfl, (blk_cell BK141.out 5).trans rfl, (blk_cell BK141.out 6).trans rfl, (blk_cell BK141.out 7).trans rfl⟩ (fun hHeld => ?_)
                                              clear hK K
                                              refine norm_ (a' := ?_) ?_ ?_
                                              rotate_left
                                              · show Act.put _ (some 98) _ = _
                                                simp only [Act.put, List.setIfInBounds_toArray, List.set_cons_zero, List.set_cons_succ, i64_w, i32_w]
                                                rfl
                                              exact norm_ (by simp only [putAll, Act.put, List.setIfInBounds_toArray, List.set_cons_zero, List.set_cons_succ]) (hCont (v151, v154) _ ⟨hHeld, (by (with_reducible repeat (first | apply Kd.R_alloc | apply Kd.R_drewN | apply Kd.R_drew)); exact Kd.R_mono HO152.out (fun _ hk => ⟨hk.2.1, ⟨hk.1, hk.2.2⟩⟩)), (by (with_reducible repeat (first | apply Kd.R_alloc | apply Kd.R_drewN | apply Kd.R_drew)); exact Kd.R_mono HO155.out (fun _ hk => ⟨hk.2, ⟨hk.1.1.2, hk.1.2⟩⟩)), (by (with_reducible repeat (first | apply Kd.R_alloc | apply Kd.R_drewN | apply Kd.R_drew)); exact Kd.R_mono HO_9.out (fun _ hk => ⟨hk.2, ⟨hk.1.2, hk.1.1⟩⟩)), (by (with_reducible repeat (first | refine blk_drewN ?_ _ | refine blk_drew ?_ | refine blk_alloc ?_ _)); exact BK141.out), (by repeat (first | (with_reducible first | exact HB.out | apply below_alloc | apply pw_below_drewN | apply below_drew1 | refine below_set ?_ GE141.out) | exact HB.out))⟩)
                                          rintro ⟨v151, v154⟩ w51 ⟨hS_, h0_, h1_, h2_, h3_, h4_⟩
                                          have n0_ : Aside0 (Kd.R k24 24 w51 w.heap.size (fun k_ => some k_ ≠ (v154 : Value).ownBlock ∧ some k_ ≠ (.slice (some ad144) x9_1.length co44 : Value).ownBlock ∧ k_ ≠ gb141) v151 y150) := ⟨h0_⟩
                                          have n1_ : Aside0 (Kd.R k24 24 w51 w.heap.size (fun k_ => some k_ ≠ (v151 : Value).ownBlock ∧ some k_ ≠ (.slice (some ad144) x9_1.length co44 : Value).ownBlock ∧ k_ ≠ gb141) v154 y153) := ⟨h1_⟩
                                          have n2_ : Aside0 (Kd.R k24 24 w51 w.heap.size (fun k_ => some k_ ≠ (v151 : Value).ownBlock ∧ some k_ ≠ (v154 : Value).ownBlock ∧ k_ ≠ gb141) (.slice (some ad144) x9_1.length co44) x9_1) := ⟨h2_⟩
                                          have n3_ : Aside0 (w51.heap[gb141]? = some (.cells #[.int .i64 ((rd_T24 l0 x10_1).f0), .string ((rd_T24 l0 x10_1).f1), .string ((rd_T24 l0 x10_1).f2), .int .i64 ((rd_T24 l0 x10_1).f3), .int .i64 ((rd_T24 l0 x10_1).f4), .int .i64 ((rd_T24 l0 x10_1).f5), .int .i64 ((rd_T24 l0 x10_1).f6), .bool ((rd_T24 l0 x10_1).f7)] 24 (0, 0))) := ⟨h3_⟩
                                          have n4_ : Aside0 (Below w.heap.size w w51) := ⟨h4_⟩
                                          clear HO_9
                                          clear BK141
                                          clear HB
                                          clear h0_ h1_ h2_ h3_ h4_
                                          have HO152 := n0_
                                          have HO155 := n1_
                                          have HO_9 := n2_
                                          have BK141 := n3_
                                          have HB := n4_
                                          clear n0_ n1_ n2_ n3_ n4_
                                          have hHeld : w51.cell? ⟨gb141, 0, none⟩ = some (.int .i64 ((rd_T24 l0 x10_1).f0)) ∧ w51.cell? ⟨gb141, 1, none⟩ = some (.string ((rd_T24 l0 x10_1).f1)) ∧ w51.cell? ⟨gb141, 2, none⟩ = some (.string ((rd_T24 l0 x10_1).f2)) ∧ w51.cell? ⟨gb141, 3, none⟩ = some (.int .i64 ((rd_T24 l0 x10_1).f3)) ∧ w51.cell? ⟨gb141, 4, none⟩ = some (.int .i64 ((rd_T24 l0 x10_1).f4)) ∧ w51.cell? ⟨gb141, 5, none⟩ = some (.int .i64 ((rd_T24 l0 x10_1).f5)) ∧ w51.cell? ⟨gb141, 6, none⟩ = some (.int .i64 ((rd_T24 l0 x10_1).f6)) ∧ w51.cell? ⟨gb141, 7, none⟩ = some (.bool ((rd_T24 l0 x10_1).f7)) := hS_
                                          obtain ⟨Ao53, co53, eo53⟩ := Kd.R_slice HO155.out
                                          (first | subst eo53 | (injection eo53 with f1_ f2_ f3_; have f4_ := f1_.symm; have f5_ := f3_.symm; clear f1_ f2_ f3_; subst f4_; subst f5_))
                                          refine norm_ (a' := ?_) ?_ ?_
                                          rotate_left
                                          · simp only [putAll, Act.put, List.setIfInBounds_toArray, List.set_cons_zero, List.set_cons_succ]
                                            rfl
                                          refine one_ (i := 7) (N := some 101) #[true, true, true, true, true, true, true, true, false] rfl rfl (one_of HT_.out (by kernel_rfl)) (by decide) (fun K hK => ?_)
                                          refine Kd.R_append_rows_step k24 (w0 := w) w.heap.size (by rfl) (.tmp 98) (.tmp 100) 22 24 (.agg #[(.int .i64 0), (.string ⟨#[]⟩), (.string ⟨#[]⟩), (.int .i64 0), (.int .i64 0), (.int .i64 0), (.int .i64 0), (.bool false)]) 80 rfl Try.underlying22 info24 rfl (by decide) (by omega) v151 y150 y153 _ _ _ (fun k_ => some k_ ≠ (.slice (some ad144) x9_1.length co44 : Value).ownBlock ∧ some k_ ≠ (.slice Ao53 y153.length co53 : Value).ownBlock ∧ k_ ≠ gb141) (fun _ => False) rfl rfl ?aO ?aR (fun _ _ h => h) (fun _ h => h.elim) ?aF ?aB ?aS ?aL ?_
                                          (case aR => repeat (first | exact (Kd.R_reads' HO155.out).2.2 | (with_reducible refine Kd.C_alloc ?_ _) | (with_reducible refine Kd.C_drewN ?_ _) | (with_reducible refine Kd.C_drew ?_)))
                                          (case aB => exact (by repeat (first | (with_reducible first | exact HB.out | apply below_alloc | apply pw_below_drewN | apply below_drew1 | refine below_set ?_ GE141.out) | exact HB.out)))
                                          (case aF => exact (fun k_ hk => ⟨Kd.fresh' (Kd.R_lt (by (with_reducible repeat (first | apply Kd.R_alloc | apply Kd.R_drewN | apply Kd.R_drew)); exact HO_9.out)) k_ hk, Kd.fresh' (Kd.R_lt (by (with_reducible repeat (first | apply Kd.R_alloc | apply Kd.R_drewN | apply Kd.R_drew)); exact HO155.out)) k_ hk, Kd.freshB (g := gb141) (o := .cells #[.int .i64 ((rd_T24 l0 x10_1).f0), .string ((rd_T24 l0 x10_1).f1), .string ((rd_T24 l0 x10_1).f2), .int .i64 ((rd_T24 l0 x10_1).f3), .int .i64 ((rd_T24 l0 x10_1).f4), .int .i64 ((rd_T24 l0 x10_1).f5), .int .i64 ((rd_T24 l0 x10_1).f6), .bool ((rd_T24 l0 x10_1).f7)] 24 (0, 0)) (by (with_reducible repeat (first | refine blk_drewN ?_ _ | refine blk_drew ?_ | refine blk_alloc ?_ _)); exact BK141.out) k_ hk⟩))
                                          (case aO => exact (by (with_reducible repeat (first | apply Kd.R_alloc | apply Kd.R_drewN | apply Kd.R_drew)); exact Kd.R_mono HO152.out (fun _ hk => ⟨hk.2.1, ⟨hk.1, hk.2.2⟩⟩)))
                                          (case aS => exact (below_size (by repeat (first | (with_reducible first | exact HB.out | apply below_alloc | apply pw_below_drewN | apply below_drew1 | refine below_set ?_ GE141.out) | exact HB.out))))
                                          (case aL => have := LMc39.out; omega)
                                          intro v157 w52 ho hb hg hat
                                          rw [← Ny156.out] at ho
                                          have n0_ := Aside0.mk (Kd.R_after (ok := (fun k_ => some k_ ≠ (.slice Ao53 y153.length co53 : Value).ownBlock ∧ k_ ≠ gb141)) (by (with_reducible repeat (first | apply Kd.R_alloc | apply Kd.R_drewN | apply Kd.R_drew)); exact Kd.R_mono HO_9.out (fun _ hk => ⟨⟨hk.2.1, hk.2.2⟩, hk.1⟩)) hg hat)
                                          have n1_ := Aside0.mk (blk_grown (g := gb141) (o := .cells #[.int .i64 ((rd_T24 l0 x10_1).f0), .string ((rd_T24 l0 x10_1).f1), .string ((rd_T24 l0 x10_1).f2), .int .i64 ((rd_T24 l0 x10_1).f3), .int .i64 ((rd_T24 l0 x10_1).f4), .int .i64 ((rd_T24 l0 x10_1).f5), .int .i64 ((rd_T24 l0 x10_1).f6), .bool ((rd_T24 l0 x10_1).f7)] 24 (0, 0)) (by (with_reducible repeat (first | refine blk_drewN ?_ _ | refine blk_drew ?_ | refine blk_alloc ?_ _)); exact BK141.out) hg (Kd.R_away HO152.out (fun _ hk => hk.2.2)))
                                          have n2_ := Aside0.mk (Kd.R_after (ok := (fun k_ => some k_ ≠ (.slice (some ad144) x9_1.length co44 : Value).ownBlock ∧ k_ ≠ gb141)) (by (with_reducible repeat (first | apply Kd.R_alloc | apply Kd.R_drewN | apply Kd.R_drew)); exact Kd.R_mono HO155.out (fun _ hk => ⟨⟨hk.2.1, hk.2.2⟩, hk.1⟩)) hg hat)
                                          have n3_ := Aside0.mk (hb)
                                          have n4_ := Aside0.mk (ho)
                                          clear HO_9
                                          clear BK141
                                          clear HO155
                                          clear HB
                                          clear HO152
                                          have HO_9 := n0_
                                          have BK141 := n1_
                                          have HO155 := n2_
                                          have HB := n3_
                                          have HO158 := n4_
                                          clear n0_ n1_ n2_ n3_ n4_
                                          clear ho hb hg hat
                                          refine hK.out _ _ ⟨(blk_cell BK141.out 0).trans rfl, (blk_cell BK141.out 1).trans rfl, (blk_cell BK141.out 2).trans rfl, (blk_cell BK141.out 3).trans rfl, (blk_cell BK141.out 4).trans rfl, (blk_cell BK141.out 5).trans rfl, (blk_cell BK141.out 6).trans rfl, (blk_cell BK141.out 7).trans rfl⟩ (fun hHeld => ?_)
                                          clear hK K
                                          refine norm_ (a' := ?_) ?_ ?_
                                          rotate_left
                                          · show Act.put _ (some 101) _ = _
                                            simp only [Act.put, List.setIfInBounds_toArray, List.set_cons_zero, List.set_cons_succ, i64_w, i32_w]
                                            rfl
                                          refine pure_ (i := 8) (N := some 15) (v := ?_) (a' := ?_) #[true, true, true, true, true, true, true, true, true] rfl rfl (any_of HT_.out (by kernel_rfl)) (fun _ _ _ h => h) (Or.inl ⟨by rfl, ?_⟩) ?_ ?_
                                          rotate_left
                                          · intro w'
                                            go_simp
                                            with_reducible rfl
                                          rotate_left
                                          · simp only [Act.put, List.setIfInBounds_toArray, List.set_cons_zero, List.set_cons_succ, i64_w, i32_w]
                                            rfl
                                          refine done_ (done_of HT_.out (by kernel_rfl)) ?_
                                          have q54 : (x14_4 : Int) ≤ ((x9_1.length : Int) : Int) := of_decide_eq_true (by first | (with_reducible assumption) | assumption)
                                          obtain ⟨i054, hi054, _, hsz54, _⟩ := info_parts info24
                                          have hroom54 : x9_1.length ≤ co44 := (Kd.R_reads' HO_9.out).2.1
                                          have hC54 : Kd.C k24 _ (some ad144) x9_1.length x9_1 := (Kd.R_reads' HO_9.out).2.2
                                          have q054 : (0 : Int) ≤ (x14_4 : Int) := of_decide_eq_true (by first | (with_reducible assumption) | assumption)
                                          have hcut54 := cut_from (P := Try.prog) 22 24 .i64 Try.underlying22 hi054 8 hsz54 (some ad144) x9_1.length co44 x14_4 q054 q54
                                          have hr54 := Kd.C_drop (m := (x14_4 : Int).toNat) (c := co44) hC54 (by omega) hroom54
                                          obtain ⟨A54, hA54⟩ : ∃ A1, A1 = (if co44 = (x14_4 : Int).toNat then (some ad144) else ((some ad144) : Option Addr).map (·.add ((x14_4 : Int).toNat * 8))) := ⟨_, rfl⟩
                                          obtain ⟨c54, hc54⟩ : ∃ c1, c1 = co44 - (x14_4 : Int).toNat := ⟨_, rfl⟩
                                          have hy54 : y159.length = x9_1.length - (x14_4 : Int).toNat := (by rw [Ny159.out, List.length_drop] <;> omega)
                                          rw [show (x9_1).drop (x14_4 : Int).toNat = y159 from Ny159.out.symm] at hr54
                                          replace hr54 : Kd.C k24 _ A54 y159.length y159 := (by rw [hA54]; exact hr54)
                                          rw [← hy54, ← hA54, ← hc54] at hcut54
                                          have HR162 := Aside0.mk hr54
                                          have HC162 := Aside0.mk (show y159.length ≤ c54 from by rw [hy54, hc54]; exact Nat.sub_le_sub_right hroom54 _)
                                          clear hr54 hC54 hroom54 hi054 hsz54 hc54
                                          have KY54 := Aside0.mk hy54
                                          have KA54 := Aside0.mk hA54
                                          clear hy54 hA54
                                          have KL54 := Aside0.mk (show (x14_4 : Int).toNat ≤ x9_1.length from by omega)
                                          replace q54 := eq_true q54
                                          try go_wp2_with (first | ((with_reducible refine gate_builtin (b := .append) (xs := #[.tmp 102, .tmp 105]) rfl ?_); at_builtin; refine Kd.R_append_rows k24 (w0 := w) w.heap.size rfl (.tmp 102) (.tmp 105) 22 24 (.agg #[(.int .i64 0), (.string ⟨#[]⟩), (.string ⟨#[]⟩), (.int .i64 0), (.int .i64 0), (.int .i64 0), (.int .i64 0), (.bool false)]) 80 rfl Try.underlying22 info24 rfl (by decide) (by omega) v157 y156 y159 _ _ _ (fun k_ => some k_ ≠ (.slice (some ad144) x9_1.length co44 : Value).ownBlock ∧ some k_ ≠ (.slice Ao53 y153.length co53 : Value).ownBlock ∧ k_ ≠ gb141) (fun _ => False) rfl rfl ?aO ?aR (fun _ _ h => h) (fun _ h => h.elim) ?aF ?aB ?aS ?aL ?_; (case aR => repeat (first | exact (by repeat (first | (with_reducible exact HR162.out) | (with_reducible refine Kd.C_alloc ?_ _) | (with_reducible refine Kd.C_drewN ?_ _) | (with_reducible refine Kd.C_drew ?_) | exact HR162.out)) | (with_reducible refine Kd.C_alloc ?_ _) | (with_reducible refine Kd.C_drewN ?_ _) | (with_reducible refine Kd.C_drew ?_))); (case aB => exact (by repeat (first | (with_reducible first | exact HB.out | apply below_alloc | apply pw_below_drewN | apply below_drew1 | refine below_set ?_ GE141.out) | exact HB.out))); (case aF => exact (fun k_ hk => ⟨Kd.fresh' (Kd.R_lt (by (with_reducible repeat (first | apply Kd.R_alloc | apply Kd.R_drewN | apply Kd.R_drew)); exact HO_9.out)) k_ hk, Kd.fresh' (Kd.R_lt (by (with_reducible repeat (first | apply Kd.R_alloc | apply Kd.R_drewN | apply Kd.R_drew)); exact HO155.out)) k_ hk, Kd.freshB (g := gb141) (o := .cells #[.int .i64 ((rd_T24 l0 x10_1).f0), .string ((rd_T24 l0 x10_1).f1), .string ((rd_T24 l0 x10_1).f2), .int .i64 ((rd_T24 l0 x10_1).f3), .int .i64 ((rd_T24 l0 x10_1).f4), .int .i64 ((rd_T24 l0 x10_1).f5), .int .i64 ((rd_T24 l0 x10_1).f6), .bool ((rd_T24 l0 x10_1).f7)] 24 (0, 0)) (by (with_reducible repeat (first | refine blk_drewN ?_ _ | refine blk_drew ?_ | refine blk_alloc ?_ _)); exact BK141.out) k_ hk⟩)); (case aO => exact (by (with_reducible repeat (first | apply Kd.R_alloc | apply Kd.R_drewN | apply Kd.R_drew)); exact HO158.out)); (case aS => exact (below_size (by repeat (first | (with_reducible first | exact HB.out | apply below_alloc | apply pw_below_drewN | apply below_drew1 | refine below_set ?_ GE141.out) | exact HB.out)))); (case aL => have := LMc42.out; omega); intro v164 w55 ho hb hg hat; rw [← Ny163.out] at ho; have n0_ := Aside0.mk (Kd.R_after (ok := (fun k_ => some k_ ≠ (.slice Ao53 y153.length co53 : Value).ownBlock ∧ k_ ≠ gb141)) (by (with_reducible repeat (first | apply Kd.R_alloc | apply Kd.R_drewN | apply Kd.R_drew)); exact HO_9.out) hg hat); have n1_ := Aside0.mk (blk_grown (g := gb141) (o := .cells #[.int .i64 ((rd_T24 l0 x10_1).f0), .string ((rd_T24 l0 x10_1).f1), .string ((rd_T24 l0 x10_1).f2), .int .i64 ((rd_T24 l0 x10_1).f3), .int .i64 ((rd_T24 l0 x10_1).f4), .int .i64 ((rd_T24 l0 x10_1).f5), .int .i64 ((rd_T24 l0 x10_1).f6), .bool ((rd_T24 l0 x10_1).f7)] 24 (0, 0)) (by (with_reducible repeat (first | refine blk_drewN ?_ _ | refine blk_drew ?_ | refine blk_alloc ?_ _)); exact BK141.out) hg (Kd.R_away HO158.out (fun _ hk => hk.2.2))); have n2_ := Aside0.mk (Kd.R_after (ok := (fun k_ => some k_ ≠ (.slice (some ad144) x9_1.length co44 : Value).ownBlock ∧ k_ ≠ gb141)) (by (with_reducible repeat (first | apply Kd.R_alloc | apply Kd.R_drewN | apply Kd.R_drew)); exact HO155.out) hg hat); have n3_ := Aside0.mk (hb); have n4_ := Aside0.mk ((show Kd.C k24 w55 A54 y159.length y159 from by rw [Ny159.out, KA54.out]; exact Kd.C_drop (m := (x14_4 : Int).toNat) (c := co44) ((Kd.R_reads' (Kd.R_after (ok := (fun k_ => some k_ ≠ (.slice Ao53 y153.length co53 : Value).ownBlock ∧ k_ ≠ gb141)) (by (with_reducible repeat (first | apply Kd.R_alloc | apply Kd.R_drewN | apply Kd.R_drew)); exact HO_9.out) hg hat)).2.2) KL54.out ((Kd.R_reads' (Kd.R_after (ok := (fun k_ => some k_ ≠ (.slice Ao53 y153.length co53 : Value).ownBlock ∧ k_ ≠ gb141)) (by (with_reducible repeat (first | apply Kd.R_alloc | apply Kd.R_drewN | apply Kd.R_drew)); exact HO_9.out) hg hat)).2.1))); have n5_ := Aside0.mk (ho); clear HO_9; clear BK141; clear HO155; clear HB; clear HR162; clear HO158; have HO_9 := n0_; have BK141 := n1_; have HO155 := n2_; have HB := n3_; have HR162 := n4_; have HO165 := n5_; clear n0_ n1_ n2_ n3_ n4_ n5_; clear ho hb hg hat))
                                          go_roundg k4
                                          case measure => have := HK1.out; have := HJ9.out; have := HJ20.out; have := HK4.out; omega
                                          case rel => exact ⟨(y163), (wrap64 (x10_1 + 1)), (by first | rfl | (simp; done) | (simp [*]; done)), H', ⟨by have := HK1.out; have := HJ9.out; have := HJ20.out; have := HK4.out; omega⟩, ⟨by (with_reducible repeat (first | apply Kd.R_alloc | apply Kd.R_drewN | apply Kd.R_drew)); exact Kd.R_mono HO165.out (fun _ hk => trivial)⟩, ⟨by repeat (first | (with_reducible first | exact HB.out | apply below_alloc | apply pw_below_drewN | apply below_drew1 | refine below_set ?_ GE141.out) | exact HB.out)⟩⟩
                                        · rw [if_neg c42] at H
                                          exact absurd H (by simp)
                                      · rw [if_neg c39] at H
                                        exact absurd H (by simp)
                                    · rw [if_neg c38] at H
                                      exact absurd H (by simp)
                                  · rw [if_neg c37] at H
                                    exact absurd H (by simp)
                              · rw [if_neg c30] at H
                                exact absurd H (by simp)
                            · rw [if_neg c29] at H
                              have c29b0 : decide (x14_4 < (x9_1.length : Int)) = false := decide_eq_false c29
                              clear c29
                              by_cases c56 : 0 ≤ x14_4
                              · rw [if_pos c56] at H
                                have c56b0 := eq_true c56
                                have c56b1 : decide (0 ≤ x14_4) = true := decide_eq_true c56
                                clear c56
                                by_cases c57 : x14_4 ≤ (x9_1.length : Int)
                                · rw [if_pos c57] at H
                                  have c57b0 := eq_true c57
                                  have c57b1 : decide (x14_4 ≤ (x9_1.length : Int)) = true := decide_eq_true c57
                                  clear c57
                                  obtain ⟨y166, hy166⟩ : ∃ y_ : List (S24), y_ = (x9_1.take (x14_4 : Int).toNat) := ⟨_, rfl⟩
                                  replace H : (if ([] : List (S24)).length + y166.length < 1759218604441 then ((some (([] : List (S24)) ++ y166 : List (S24))).bind fun y170 => ((some (([(⟨((rd_T24 l0 x10_1).f0), ((rd_T24 l0 x10_1).f1), ((rd_T24 l0 x10_1).f2), ((rd_T24 l0 x10_1).f3), ((rd_T24 l0 x10_1).f4), ((rd_T24 l0 x10_1).f5), ((rd_T24 l0 x10_1).f6), ((rd_T24 l0 x10_1).f7)⟩ : S24)] : List (S24)) : List (S24))).bind fun y173 => (if y170.length + y173.length < 1759218604441 then ((some (y170 ++ y173 : List (S24))).bind fun y176 => ((some (x9_1.drop (x14_4 : Int).toNat : List (S24))).bind fun y179 => (if y176.length + y179.length < 1759218604441 then (wageofficeref31_Open.l0 k4 l0 a1 a2 a3 (y176 ++ y179) (wrap64 (x10_1 + 1))) else (none)))) else (none)))) else (none)) = some r := by first | (rw [hy166]; with_reducible exact H) | (have H2_ := (Option.bind_some _ _).symm.trans H; rw [hy166]; with_reducible exact H2_) | (have H2_ := (Option.bind_some _ _).symm.trans H; with_reducible exact H2_) | with_reducible exact H | (rw [hy166]; exact H) | exact H
                                  have Ny166 := Aside0.mk hy166
                                  clear hy166
                                  by_cases c58 : ([] : List (S24)).length + y166.length < 1759218604441
                                  · rw [if_pos c58] at H
                                    have LMc58 := Aside0.mk c58
                                    clear c58
                                    obtain ⟨y170, hy170⟩ : ∃ y_ : List (S24), y_ = (([] : List (S24)) ++ y166) := ⟨_, rfl⟩
                                    replace H : ((some (([(⟨((rd_T24 l0 x10_1).f0), ((rd_T24 l0 x10_1).f1), ((rd_T24 l0 x10_1).f2), ((rd_T24 l0 x10_1).f3), ((rd_T24 l0 x10_1).f4), ((rd_T24 l0 x10_1).f5), ((rd_T24 l0 x10_1).f6), ((rd_T24 l0 x10_1).f7)⟩ : S24)] : List (S24)) : List (S24))).bind fun y173 => (if y170.length + y173.length < 1759218604441 then ((some (y170 ++ y173 : List (S24))).bind fun y176 => ((some (x9_1.drop (x14_4 : Int).toNat : List (S24))).bind fun y179 => (if y176.length + y179.length < 1759218604441 then (wageofficeref31_Open.l0 k4 l0 a1 a2 a3 (y176 ++ y179) (wrap64 (x10_1 + 1))) else (none)))) else (none))) = some r := by first | (rw [hy170]; with_reducible exact H) | (have H2_ := (Option.bind_some _ _).symm.trans H; rw [hy170]; with_reducible exact H2_) | (have H2_ := (Option.bind_some _ _).symm.trans H; with_reducible exact H2_) | with_reducible exact H | (rw [hy170]; exact H) | exact H
                                    have Ny170 := Aside0.mk hy170
                                    clear hy170
                                    obtain ⟨y173, hy173⟩ : ∃ y_ : List (S24), y_ = (([(⟨((rd_T24 l0 x10_1).f0), ((rd_T24 l0 x10_1).f1), ((rd_T24 l0 x10_1).f2), ((rd_T24 l0 x10_1).f3), ((rd_T24 l0 x10_1).f4), ((rd_T24 l0 x10_1).f5), ((rd_T24 l0 x10_1).f6), ((rd_T24 l0 x10_1).f7)⟩ : S24)] : List (S24))) := ⟨_, rfl⟩
                                    replace H : (if y170.length + y173.length < 1759218604441 then ((some (y170 ++ y173 : List (S24))).bind fun y176 => ((some (x9_1.drop (x14_4 : Int).toNat : List (S24))).bind fun y179 => (if y176.length + y179.length < 1759218604441 then (wageofficeref31_Open.l0 k4 l0 a1 a2 a3 (y176 ++ y179) (wrap64 (x10_1 + 1))) else (none)))) else (none)) = some r := by first | (rw [hy173]; with_reducible exact H) | (have H2_ := (Option.bind_some _ _).symm.trans H; rw [hy173]; with_reducible exact H2_) | (have H2_ := (Option.bind_some _ _).symm.trans H; with_reducible exact H2_) | with_reducible exact H | (rw [hy173]; exact H) | exact H
                                    have Ny173 := Aside0.mk hy173
                                    clear hy173
                                    by_cases c59 : y170.length + y173.length < 1759218604441
                                    · rw [if_pos c59] at H
                                      have LMc59 := Aside0.mk c59
                                      clear c59
                                      obtain ⟨y176, hy176⟩ : ∃ y_ : List (S24), y_ = (y170 ++ y173) := ⟨_, rfl⟩
                                      replace H : ((some (x9_1.drop (x14_4 : Int).toNat : List (S24))).bind fun y179 => (if y176.length + y179.length < 1759218604441 then (wageofficeref31_Open.l0 k4 l0 a1 a2 a3 (y176 ++ y179) (wrap64 (x10_1 + 1))) else (none))) = some r := by first | (rw [hy176]; with_reducible exact H) | (have H2_ := (Option.bind_some _ _).symm.trans H; rw [hy176]; with_reducible exact H2_) | (have H2_ := (Option.bind_some _ _).symm.trans H; with_reducible exact H2_) | with_reducible exact H | (rw [hy176]; exact H) | exact H
                                      have Ny176 := Aside0.mk hy176
                                      clear hy176
                                      have c60b0 := eq_true (of_decide_eq_true (by first | (with_reducible assumption) | assumption) : 0 ≤ x14_4)
                                      have c61b0 := eq_true (of_decide_eq_true (by first | (with_reducible assumption) | assumption) : x14_4 ≤ (x9_1.length : Int))
                                      obtain ⟨y179, hy179⟩ : ∃ y_ : List (S24), y_ = (x9_1.drop (x14_4 : Int).toNat) := ⟨_, rfl⟩
                                      replace H : (if y176.length + y179.length < 1759218604441 then (wageofficeref31_Open.l0 k4 l0 a1 a2 a3 (y176 ++ y179) (wrap64 (x10_1 + 1))) else (none)) = some r := by first | (rw [hy179]; with_reducible exact H) | (have H2_ := (Option.bind_some _ _).symm.trans H; rw [hy179]; with_reducible exact H2_) | (have H2_ := (Option.bind_some _ _).symm.trans H; with_reducible exact H2_) | with_reducible exact H | (rw [hy179]; exact H) | exact H
                                      have Ny179 := Aside0.mk hy179
                                      clear hy179
                                      by_cases c62 : y176.length + y179.length < 1759218604441
                                      · rw [if_pos c62] at H
                                        have LMc62 := Aside0.mk c62
                                        clear c62
                                        obtain ⟨y183, hy183⟩ : ∃ y_ : List (S24), y_ = (y176 ++ y179) := ⟨_, rfl⟩
                                        replace H : (wageofficeref31_Open.l0 k4 l0 a1 a2 a3 y183 (wrap64 (x10_1 + 1))) = some r := by first | (rw [hy183]; with_reducible exact H) | (have H2_ := (Option.bind_some _ _).symm.trans H; rw [hy183]; with_reducible exact H2_) | (have H2_ := (Option.bind_some _ _).symm.trans H; with_reducible exact H2_) | with_reducible exact H | (rw [hy183]; exact H) | exact H
                                        have Ny183 := Aside0.mk hy183
                                        clear hy183
                                        have H' := Aside0.mk H
                                        clear H
                                        try go_wp2
                                        have n0_ := Aside0.mk (Kd.R_drew HO_9.out)
                                        have n1_ := Aside0.mk (blk_drew BK141.out)
                                        have n2_ := Aside0.mk (below_drew1 HB.out)
                                        clear HO_9
                                        clear BK141
                                        clear HB
                                        have HO_9 := n0_
                                        have BK141 := n1_
                                        have HB := n2_
                                        clear n0_ n1_ n2_
                                        obtain ⟨Ao64, co64, eo64⟩ := Kd.R_slice HO_9.out
                                        (first | subst eo64 | (injection eo64 with f1_ f2_ f3_; have f4_ := f1_.symm; have f5_ := f3_.symm; clear f1_ f2_ f3_; subst f4_; subst f5_))
                                        refine start_ (n := 12) (S := fun w' => True) (ds := []) #[false, false, false, false, false, false, false, false, false, false, false, false] (by kernel_rfl) rfl rfl trivial (fun hHeld => ?_); refine with_tabW wageofficeref31_Open.tab16 wageofficeref31_Open.bits16 (fun HT_ HW_ => ?_)
                                        generalize wr.drew = w63 at HO_9 BK141 HB hHeld ⊢
                                        refine pure_ (i := 0) (N := some 80) (v := ?_) (a' := ?_) #[true, false, false, false, false, false, false, false, false, false, false, false] rfl rfl (any_of HT_.out (by kernel_rfl)) (fun _ _ _ h => h) (Or.inl ⟨by rfl, ?_⟩) ?_ ?_
                                        rotate_left
                                        · intro w'
                                          go_simp
                                          with_reducible rfl
                                        rotate_left
                                        · simp only [Act.put, List.setIfInBounds_toArray, List.set_cons_zero, List.set_cons_succ, i64_w, i32_w]
                                          rfl
                                        refine pure_ (i := 1) (N := some 81) (v := ?_) (a' := ?_) #[true, true, false, false, false, false, false, false, false, false, false, false] rfl rfl (any_of HT_.out (by kernel_rfl)) (fun _ _ _ h => h) (Or.inl ⟨by rfl, ?_⟩) ?_ ?_
                                        rotate_left
                                        · intro w'
                                          go_simp
                                          with_reducible rfl
                                        rotate_left
                                        · simp only [Act.put, List.setIfInBounds_toArray, List.set_cons_zero, List.set_cons_succ, i64_w, i32_w]
                                          rfl
                                        refine pure_ (i := 2) (N := some 82) (v := ?_) (a' := ?_) #[true, true, true, false, false, false, false, false, false, false, false, false] rfl rfl (any_of HT_.out (by kernel_rfl)) (fun _ _ _ h => h) (Or.inl ⟨by rfl, ?_⟩) ?_ ?_
                                        rotate_left
                                        · intro w'
                                          go_simp
                                          with_reducible rfl
                                        rotate_left
                                        · simp only [Act.put, List.setIfInBounds_toArray, List.set_cons_zero, List.set_cons_succ, i64_w, i32_w]
                                          rfl
                                        refine pure_ (i := 3) (N := some 83) (v := ?_) (a' := ?_) #[true, true, true, true, false, false, false, false, false, false, false, false] rfl rfl (any_of HT_.out (by kernel_rfl)) (fun _ _ _ h => h) (Or.inl ⟨by rfl, ?_⟩) ?_ ?_
                                        rotate_left
                                        · intro w'
                                          go_simp
                                          with_reducible rfl
                                        rotate_left
                                        · simp only [Act.put, List.setIfInBounds_toArray, List.set_cons_zero, List.set_cons_succ, i64_w, i32_w]
                                          rfl
                                        refine pure_ (i := 4) (N := some 84) (v := ?_) (a' := ?_) #[true, true, true, true, true, false, false, false, false, false, false, false] rfl rfl (any_of HT_.out (by kernel_rfl)) (fun _ _ _ h => h) (Or.inl ⟨by rfl, ?_⟩) ?_ ?_
                                        rotate_left
                                        · intro w'
                                          go_simp
                                          with_reducible rfl
                                        rotate_left
                                        · simp only [Act.put, List.setIfInBounds_toArray, List.set_cons_zero, List.set_cons_succ, i64_w, i32_w]
                                          rfl
                                        refine pure_ (i := 5) (N := some 85) (v := undef) (a' := ?_) #[true, true, true, true, true, true, false, false, false, false, false, false] rfl rfl (any_of HT_.out (by kernel_rfl)) (fun _ _ _ h => h) (Or.inr ⟨by rfl, rfl⟩) ?_ ?_
                                        rotate_left
                                        · simp only [Act.put, List.setIfInBounds_toArray, List.set_cons_zero, List.set_cons_succ, i64_w, i32_w]
                                          rfl
                                        refine pure_ (i := 6) (N := some 86) (v := undef) (a' := ?_) #[true, true, true, true, true, true, true, false, false, false, false, false] rfl rfl (any_of HT_.out (by kernel_rfl)) (fun _ _ _ h => h) (Or.inr ⟨by rfl, rfl⟩) ?_ ?_
                                        rotate_left
                                        · simp only [Act.put, List.setIfInBounds_toArray, List.set_cons_zero, List.set_cons_succ, i64_w, i32_w]
                                          rfl
                                        refine pure_ (i := 7) (N := some 87) (v := undef) (a' := ?_) #[true, true, true, true, true, true, true, true, false, false, false, false] rfl rfl (any_of HT_.out (by kernel_rfl)) (fun _ _ _ h => h) (Or.inr ⟨by rfl, rfl⟩) ?_ ?_
                                        rotate_left
                                        · simp only [Act.put, List.setIfInBounds_toArray, List.set_cons_zero, List.set_cons_succ, i64_w, i32_w]
                                          rfl
                                        refine pure_ (i := 8) (N := some 88) (v := undef) (a' := ?_) #[true, true, true, true, true, true, true, true, true, false, false, false] rfl rfl (any_of HT_.out (by kernel_rfl)) (fun _ _ _ h => h) (Or.inr ⟨by rfl, rfl⟩) ?_ ?_
                                        rotate_left
                                        · simp only [Act.put, List.setIfInBounds_toArray, List.set_cons_zero, List.set_cons_succ, i64_w, i32_w]
                                          rfl
                                        refine pure_ (i := 9) (N := some 89) (v := undef) (a' := ?_) #[true, true, true, true, true, true, true, true, true, true, false, false] rfl rfl (any_of HT_.out (by kernel_rfl)) (fun _ _ _ h => h) (Or.inr ⟨by rfl, rfl⟩) ?_ ?_
                                        rotate_left
                                        · simp only [Act.put, List.setIfInBounds_toArray, List.set_cons_zero, List.set_cons_succ, i64_w, i32_w]
                                          rfl
                                        refine pure_ (i := 10) (N := some 90) (v := undef) (a' := ?_) #[true, true, true, true, true, true, true, true, true, true, true, false] rfl rfl (any_of HT_.out (by kernel_rfl)) (fun _ _ _ h => h) (Or.inr ⟨by rfl, rfl⟩) ?_ ?_
                                        rotate_left
                                        · simp only [Act.put, List.setIfInBounds_toArray, List.set_cons_zero, List.set_cons_succ, i64_w, i32_w]
                                          rfl
                                        refine pure_ (i := 11) (N := some 91) (v := ?_) (a' := ?_) #[true, true, true, true, true, true, true, true, true, true, true, true] rfl rfl (any_of HT_.out (by kernel_rfl)) (fun _ _ _ h => h) (Or.inl ⟨by rfl, ?_⟩) ?_ ?_
                                        rotate_left
                                        · intro w'
                                          go_simp
                                          with_reducible rfl
                                        rotate_left
                                        · simp only [Act.put, List.setIfInBounds_toArray, List.set_cons_zero, List.set_cons_succ, i64_w, i32_w]
                                          rfl
                                        refine done_ (done_of HT_.out (by kernel_rfl)) ?_
                                        try go_wp2
                                        have n0_ := Aside0.mk (Kd.R_drew HO_9.out)
                                        have n1_ := Aside0.mk (blk_drew BK141.out)
                                        have n2_ := Aside0.mk (below_drew1 HB.out)
                                        clear HO_9
                                        clear BK141
                                        clear HB
                                        have HO_9 := n0_
                                        have BK141 := n1_
                                        have HB := n2_
                                        clear n0_ n1_ n2_
                                        have q66 : (x14_4 : Int) ≤ ((x9_1.length : Int) : Int) := of_decide_eq_true (by first | (with_reducible assumption) | assumption)
                                        obtain ⟨i066, hi066, _, hsz66, _⟩ := info_parts info24
                                        have hroom66 : x9_1.length ≤ co64 := (Kd.R_reads' HO_9.out).2.1
                                        have hC66 : Kd.C k24 _ Ao64 x9_1.length x9_1 := (Kd.R_reads' HO_9.out).2.2
                                        have hcut66 := cut_to (P := Try.prog) 22 24 .i64 Try.underlying22 hi066 Ao64 x9_1.length co64 x14_4 (of_decide_eq_true (by first | (with_reducible assumption) | assumption)) q66 hroom66
                                        have hr66 := Kd.C_take (m := (x14_4 : Int).toNat) hC66 (by omega)
                                        have hy66 : y166.length = (x14_4 : Int).toNat := (by rw [Ny166.out, List.length_take]; omega)
                                        rw [← Ny166.out] at hr66
                                        rw [← hy66] at hcut66
                                        have HR169 := Aside0.mk hr66
                                        have HC169 := Aside0.mk (show y166.length ≤ co64 from by omega)
                                        clear hr66 hC66 hroom66 hi066 hsz66
                                        have KY66 := Aside0.mk hy66
                                        clear hy66
                                        have KL66 := Aside0.mk (show (x14_4 : Int).toNat ≤ x9_1.length from by omega)
                                        replace q66 := eq_true q66
                                        refine start_ (n := 9) (S := fun w' => w'.cell? ⟨gb141, 0, none⟩ = some (.int .i64 ((rd_T24 l0 x10_1).f0)) ∧ w'.cell? ⟨gb141, 1, none⟩ = some (.string ((rd_T24 l0 x10_1).f1)) ∧ w'.cell? ⟨gb141, 2, none⟩ = some (.string ((rd_T24 l0 x10_1).f2)) ∧ w'.cell? ⟨gb141, 3, none⟩ = some (.int .i64 ((rd_T24 l0 x10_1).f3)) ∧ w'.cell? ⟨gb141, 4, none⟩ = some (.int .i64 ((rd_T24 l0 x10_1).f4)) ∧ w'.cell? ⟨gb141, 5, none⟩ = some (.int .i64 ((rd_T24 l0 x10_1).f5)) ∧ w'.cell? ⟨gb141, 6, none⟩ = some (.int .i64 ((rd_T24 l0 x10_1).f6)) ∧ w'.cell? ⟨gb141, 7, none⟩ = some (.bool ((rd_T24 l0 x10_1).f7))) (ds := []) #[false, false, false, false, false, false, false, false, false] (by kernel_rfl) rfl rfl ⟨(blk_cell BK141.out 0).trans rfl, (blk_cell BK141.out 1).trans rfl, (blk_cell BK141.out 2).trans rfl, (blk_cell BK141.out 3).trans rfl, (blk_cell BK141.out 4).trans rfl, (blk_cell BK141.out 5).trans rfl, (blk_cell BK141.out 6).trans rfl, (blk_cell BK141.out 7).trans rfl⟩ (fun hHeld => ?_); refine with_tabW wageofficeref31_Open.tab19 wageofficeref31_Open.bits19 (fun HT_ HW_ => ?_)
                                        generalize w63.drew = w65 at HO_9 BK141 HB HR169 hHeld ⊢
                                        refine pure_ (i := 0) (N := some 94) (v := ?_) (a' := ?_) #[true, false, false, false, false, false, false, false, false] rfl rfl (any_of HT_.out (by kernel_rfl)) (fun _ _ _ h => h) (Or.inl ⟨by rfl, ?_⟩) ?_ ?_
                                        rotate_left
                                        · intro w'
                                          go_simp
                                          with_reducible rfl
                                        rotate_left
                                        · simp only [Act.put, List.setIfInBounds_toArray, List.set_cons_zero, List.set_cons_succ, i64_w, i32_w]
                                          rfl
                                        refine pure_ (i := 1) (N := some 95) (v := ?_) (a' := ?_) #[true, true, false, false, false, false, false, false, false] rfl rfl (any_of HT_.out (by kernel_rfl)) (fun _ _ _ h => h) (Or.inl ⟨by rfl, ?_⟩) ?_ ?_
                                        rotate_left
                                        · intro w'
                                          go_simp
                                          with_reducible rfl
                                        rotate_left
                                        · simp only [Act.put, List.setIfInBounds_toArray, List.set_cons_zero, List.set_cons_succ, i64_w, i32_w]
                                          rfl
                                        refine pure_ (i := 2) (N := some 96) (v := ?_) (a' := ?_) #[true, true, true, false, false, false, false, false, false] rfl rfl (any_of HT_.out (by kernel_rfl)) (fun _ _ _ h => h) (Or.inl ⟨by rfl, ?_⟩) ?_ ?_
                                        rotate_left
                                        · intro w'
                                          go_simp
                                          with_reducible rfl
                                        rotate_left
                                        · simp only [Act.put, List.setIfInBounds_toArray, List.set_cons_zero, List.set_cons_succ, i64_w, i32_w]
                                          rfl
                                        refine pure_ (i := 3) (N := some 97) (v := ?_) (a' := ?_) #[true, true, true, true, false, false, false, false, false] rfl rfl (any_of HT_.out (by kernel_rfl)) (fun _ _ _ h => h) (Or.inl ⟨by rfl, ?_⟩) ?_ ?_
                                        rotate_left
                                        · intro w'
                                          go_simp
                                          with_reducible rfl
                                        rotate_left
                                        · simp only [Act.put, List.setIfInBounds_toArray, List.set_cons_zero, List.set_cons_succ, i64_w, i32_w]
                                          rfl
                                        refine take_ (i := 5) (N := some 99) (v := ?_) (a' := ?_) #[true, true, true, true, false, true, false, false, false] rfl rfl (take_ofW HT_.out HW_.out (by kernel_rfl)) (fun _ _ _ h => h) (Or.inl ⟨by rfl, ?_⟩) hHeld ?_ ?_
                                        rotate_left
                                        · rintro w' ⟨s0, s1, s2, s3, s4, s5, s6, s7⟩
                                          go_simp
                                          with_reducible rfl
                                        rotate_left
                                        · simp only [Act.put, List.setIfInBounds_toArray, List.set_cons_zero, List.set_cons_succ, i64_w, i32_w]
                                          rfl
                                        refine join_ (σ := Value × Value) 2 #[true, true, true, true, true, true, true, false, false] (fun s_ => [(98, s_.1), (100, s_.2)]) (fun s_ w' => (w'.cell? ⟨gb141, 0, none⟩ = some (.int .i64 ((rd_T24 l0 x10_1).f0)) ∧ w'.cell? ⟨gb141, 1, none⟩ = some (.string ((rd_T24 l0 x10_1).f1)) ∧ w'.cell? ⟨gb141, 2, none⟩ = some (.string ((rd_T24 l0 x10_1).f2)) ∧ w'.cell? ⟨gb141, 3, none⟩ = some (.int .i64 ((rd_T24 l0 x10_1).f3)) ∧ w'.cell? ⟨gb141, 4, none⟩ = some (.int .i64 ((rd_T24 l0 x10_1).f4)) ∧ w'.cell? ⟨gb141, 5, none⟩ = some (.int .i64 ((rd_T24 l0 x10_1).f5)) ∧ w'.cell? ⟨gb141, 6, none⟩ = some (.int .i64 ((rd_T24 l0 x10_1).f6)) ∧ w'.cell? ⟨gb141, 7, none⟩ = some (.bool ((rd_T24 l0 x10_1).f7))) ∧ (Kd.R k24 24 w' w.heap.size (fun k_ => some k_ ≠ (s_.2 : Value).ownBlock ∧ some k_ ≠ (.slice Ao64 x9_1.length co64 : Value).ownBlock ∧ k_ ≠ gb141) s_.1 y170) ∧ (Kd.R k24 24 w' w.heap.size (fun k_ => some k_ ≠ (s_.1 : Value).ownBlock ∧ some k_ ≠ (.slice Ao64 x9_1.length co64 : Value).ownBlock ∧ k_ ≠ gb141) s_.2 y173) ∧ (Kd.R k24 24 w' w.heap.size (fun k_ => some k_ ≠ (s_.1 : Value).ownBlock ∧ some k_ ≠ (s_.2 : Value).ownBlock ∧ k_ ≠ gb141) (.slice Ao64 x9_1.length co64) x9_1) ∧ (w'.heap[gb141]? = some (.cells #[.int .i64 ((rd_T24 l0 x10_1).f0), .string ((rd_T24 l0 x10_1).f1), .string ((rd_T24 l0 x10_1).f2), .int .i64 ((rd_T24 l0 x10_1).f3), .int .i64 ((rd_T24 l0 x10_1).f4), .int .i64 ((rd_T24 l0 x10_1).f5), .int .i64 ((rd_T24 l0 x10_1).f6), .bool ((rd_T24 l0 x10_1).f7)] 24 (0, 0))) ∧ (Below w.heap.size w w')) ?_ ?_
                                        rotate_left
                                        · intro hCont
                                          refine two_ (i := 4) (j := 6) (Ni := some 98) (Nj := some 100) #[true, true, true, true, true, true, false, false, false] #[true, true, true, true, false, true, true, false, false] rfl rfl rfl rfl (two_of HT_.out (by kernel_rfl)) (by decide) (by decide) (fun K hK => ?_) (fun K hK => ?_)
                                          · skip
                                            refine Kd.R_append_rows_step k24 (w0 := w) w.heap.size (by rfl) (.tmp 94) (.tmp 97) 22 24 (.agg #[(.int .i64 0), (.string ⟨#[]⟩), (.string ⟨#[]⟩), (.int .i64 0), (.int .i64 0), (.int .i64 0), (.int .i64 0), (.bool false)]) 80 rfl Try.underlying22 info24 rfl (by decide) (by omega) (.slice none 0 0) ([] : List (S24)) y166 _ _ _ (fun k_ => some k_ ≠ (.slice Ao64 x9_1.length co64 : Value).ownBlock ∧ k_ ≠ gb141) (fun _ => False) rfl rfl ?aO ?aR (fun _ _ h => h) (fun _ h => h.elim) ?aF ?aB ?aS ?aL ?_
                                            (case aR => repeat (first | exact (by repeat (first | (with_reducible exact HR169.out) | (with_reducible refine Kd.C_alloc ?_ _) | (with_reducible refine Kd.C_drewN ?_ _) | (with_reducible refine Kd.C_drew ?_) | exact HR169.out)) | (with_reducible refine Kd.C_alloc ?_ _) | (with_reducible refine Kd.C_drewN ?_ _) | (with_reducible refine Kd.C_drew ?_)))
                                            (case aB => exact (by repeat (first | (with_reducible first | exact HB.out | apply below_alloc | apply pw_below_drewN | apply below_drew1 | refine below_set ?_ GE141.out) | exact HB.out)))
                                            (case aF => exact (fun k_ hk => ⟨Kd.fresh' (Kd.R_lt (by (with_reducible repeat (first | apply Kd.R_alloc | apply Kd.R_drewN | apply Kd.R_drew)); exact HO_9.out)) k_ hk, Kd.freshB (g := gb141) (o := .cells #[.int .i64 ((rd_T24 l0 x10_1).f0), .string ((rd_T24 l0 x10_1).f1), .string ((rd_T24 l0 x10_1).f2), .int .i64 ((rd_T24 l0 x10_1).f3), .int .i64 ((rd_T24 l0 x10_1).f4), .int .i64 ((rd_T24 l0 x10_1).f5), .int .i64 ((rd_T24 l0 x10_1).f6), .bool ((rd_T24 l0 x10_1).f7)] 24 (0, 0)) (by (with_reducible repeat (first | refine blk_drewN ?_ _ | refine blk_drew ?_ | refine blk_alloc ?_ _)); exact BK141.out) k_ hk⟩))
                                            (case aO => exact ((Kd.R_nil _ _ _ _ (fun k_ => some k_ ≠ (.slice Ao64 x9_1.length co64 : Value).ownBlock ∧ k_ ≠ gb141))))
                                            (case aS => exact (below_size (by repeat (first | (with_reducible first | exact HB.out | apply below_alloc | apply pw_below_drewN | apply below_drew1 | refine below_set ?_ GE141.out) | exact HB.out))))
                                            (case aL => have := LMc58.out; omega)
                                            intro v171 w67 ho hb hg hat
                                            rw [← Ny170.out] at ho
                                            have n0_ := Aside0.mk (Kd.R_after (Kd.R_apart_nil (by (with_reducible repeat (first | apply Kd.R_alloc | apply Kd.R_drewN | apply Kd.R_drew)); exact HO_9.out)) hg hat)
                                            have n1_ := Aside0.mk (blk_grown (g := gb141) (o := .cells #[.int .i64 ((rd_T24 l0 x10_1).f0), .string ((rd_T24 l0 x10_1).f1), .string ((rd_T24 l0 x10_1).f2), .int .i64 ((rd_T24 l0 x10_1).f3), .int .i64 ((rd_T24 l0 x10_1).f4), .int .i64 ((rd_T24 l0 x10_1).f5), .int .i64 ((rd_T24 l0 x10_1).f6), .bool ((rd_T24 l0 x10_1).f7)] 24 (0, 0)) (by (with_reducible repeat (first | refine blk_drewN ?_ _ | refine blk_drew ?_ | refine blk_alloc ?_ _)); exact BK141.out) hg (by simp [Value.ownBlock]))
                                            have n2_ := Aside0.mk (hb)
                                            have n3_ := Aside0.mk ((show Kd.C k24 w67 Ao64 y166.length y166 from by rw [Ny166.out]; exact Kd.C_take (m := (x14_4 : Int).toNat) ((Kd.R_reads' (Kd.R_after (Kd.R_apart_nil (by (with_reducible repeat (first | apply Kd.R_alloc | apply Kd.R_drewN | apply Kd.R_drew)); exact HO_9.out)) hg hat)).2.2) KL66.out))
                                            have n4_ := Aside0.mk (ho)
                                            clear HO_9
                                            clear BK141
                                            clear HB
                                            clear HR169
                                            have HO_9 := n0_
                                            have BK141 := n1_
                                            have HB := n2_
                                            have HR169 := n3_
                                            have HO172 := n4_
                                            clear n0_ n1_ n2_ n3_ n4_
                                            clear ho hb hg hat
                                            refine hK.out _ _ ⟨(blk_cell BK141.out 0).trans rfl, (blk_cell BK141.out 1).trans rfl, (blk_cell BK141.out 2).trans rfl, (blk_cell BK141.out 3).trans rfl, (blk_cell BK141.out 4).trans rfl, (blk_cell BK141.out 5).trans rfl, (blk_cell BK141.out 6).trans rfl, (blk_cell BK141.out 7).trans rfl⟩ (fun hHeld => ?_)
                                            clear hK K
                                            refine norm_ (a' := ?_) ?_ ?_
                                            rotate_left
                                            · show Act.put _ (some 98) _ = _
                                              simp only [Act.put, List.setIfInBounds_toArray, List.set_cons_zero, List.set_cons_succ, i64_w, i32_w]
                                              rfl
                                            refine one_ (i := 6) (N := some 100) #[true, true, true, true, true, true, true, false, false] rfl rfl (one_of HT_.out (by kernel_rfl)) (by decide) (fun K hK => ?_)
                                            refine Kd.R_lit_step k24 _ 24 ?hg (N := 100) ?hd (xs := ([(⟨((rd_T24 l0 x10_1).f0), ((rd_T24 l0 x10_1).f1), ((rd_T24 l0 x10_1).f2), ((rd_T24 l0 x10_1).f3), ((rd_T24 l0 x10_1).f4), ((rd_T24 l0 x10_1).f5), ((rd_T24 l0 x10_1).f6), ((rd_T24 l0 x10_1).f7)⟩ : S24)] : List (S24))) (inner := [.int .i64 ((rd_T24 l0 x10_1).f0), .string ((rd_T24 l0 x10_1).f1), .string ((rd_T24 l0 x10_1).f2), .int .i64 ((rd_T24 l0 x10_1).f3), .int .i64 ((rd_T24 l0 x10_1).f4), .int .i64 ((rd_T24 l0 x10_1).f5), .int .i64 ((rd_T24 l0 x10_1).f6), .bool ((rd_T24 l0 x10_1).f7)]) (ok := fun _ => True) (okp := fun _ => True) ?hr ?hp (fun _ hk => hk) trivial (Below.refl _ _) (Nat.le_refl _) (by simp) ?_; (case hd => rfl); (case hg => rfl); (case hr => first | (go_simp; done) | (go_simp; rfl)); (case hp => exact (Reps.c8 (show Kd.M k24 _ _ _ (⟨((rd_T24 l0 x10_1).f0), ((rd_T24 l0 x10_1).f1), ((rd_T24 l0 x10_1).f2), ((rd_T24 l0 x10_1).f3), ((rd_T24 l0 x10_1).f4), ((rd_T24 l0 x10_1).f5), ((rd_T24 l0 x10_1).f6), ((rd_T24 l0 x10_1).f7)⟩ : S24) [.int .i64 ((rd_T24 l0 x10_1).f0), .string ((rd_T24 l0 x10_1).f1), .string ((rd_T24 l0 x10_1).f2), .int .i64 ((rd_T24 l0 x10_1).f3), .int .i64 ((rd_T24 l0 x10_1).f4), .int .i64 ((rd_T24 l0 x10_1).f5), .int .i64 ((rd_T24 l0 x10_1).f6), .bool ((rd_T24 l0 x10_1).f7)] from (k24_mkM _ _ _ (⟨((rd_T24 l0 x10_1).f0), ((rd_T24 l0 x10_1).f1), ((rd_T24 l0 x10_1).f2), ((rd_T24 l0 x10_1).f3), ((rd_T24 l0 x10_1).f4), ((rd_T24 l0 x10_1).f5), ((rd_T24 l0 x10_1).f6), ((rd_T24 l0 x10_1).f7)⟩ : S24) )) (Reps.none _ _)))
                                            intro v174 w68 ho69 hb hg_ hnew_
                                            clear hg_ hnew_
                                            (first | rw [← Ny173.out] at ho69 | (simp only [Int.reduceToNat] at ho69; rw [← Ny173.out] at ho69))
                                            have n0_ := Aside0.mk (Kd.R_elder' (by (with_reducible repeat (first | apply Kd.R_alloc | apply Kd.R_drewN | apply Kd.R_drew)); exact HO_9.out) (Kd.R_base ho69) hb)
                                            have n1_ := Aside0.mk (Kd.R_elder' (by (with_reducible repeat (first | apply Kd.R_alloc | apply Kd.R_drewN | apply Kd.R_drew)); exact HO172.out) (Kd.R_base ho69) hb)
                                            have n2_ := Aside0.mk (Kd.R_lower (Kd.R_newB (Kd.R_new' (Kd.R_new' ho69 (Kd.R_lt (by (with_reducible repeat (first | apply Kd.R_alloc | apply Kd.R_drewN | apply Kd.R_drew)); exact HO_9.out))) (Kd.R_lt (by (with_reducible repeat (first | apply Kd.R_alloc | apply Kd.R_drewN | apply Kd.R_drew)); exact HO172.out))) (g := gb141) (o := .cells #[.int .i64 ((rd_T24 l0 x10_1).f0), .string ((rd_T24 l0 x10_1).f1), .string ((rd_T24 l0 x10_1).f2), .int .i64 ((rd_T24 l0 x10_1).f3), .int .i64 ((rd_T24 l0 x10_1).f4), .int .i64 ((rd_T24 l0 x10_1).f5), .int .i64 ((rd_T24 l0 x10_1).f6), .bool ((rd_T24 l0 x10_1).f7)] 24 (0, 0)) (by (with_reducible repeat (first | refine blk_drewN ?_ _ | refine blk_drew ?_ | refine blk_alloc ?_ _)); exact BK141.out)) (below_size (by repeat (first | (with_reducible first | exact HB.out | apply below_alloc | apply pw_below_drewN | apply below_drew1 | refine below_set ?_ GE141.out) | exact HB.out))))
                                            have n3_ := Aside0.mk (blk_below (g := gb141) (o := .cells #[.int .i64 ((rd_T24 l0 x10_1).f0), .string ((rd_T24 l0 x10_1).f1), .string ((rd_T24 l0 x10_1).f2), .int .i64 ((rd_T24 l0 x10_1).f3), .int .i64 ((rd_T24 l0 x10_1).f4), .int .i64 ((rd_T24 l0 x10_1).f5), .int .i64 ((rd_T24 l0 x10_1).f6), .bool ((rd_T24 l0 x10_1).f7)] 24 (0, 0)) (by (with_reducible repeat (first | refine blk_drewN ?_ _ | refine blk_drew ?_ | refine blk_alloc ?_ _)); exact BK141.out) hb)
                                            have n4_ := Aside0.mk (Kd.C_below (by repeat (first | (with_reducible exact HR169.out) | (with_reducible refine Kd.C_alloc ?_ _) | (with_reducible refine Kd.C_drewN ?_ _) | (with_reducible refine Kd.C_drew ?_) | exact HR169.out)) hb)
                                            have n5_ := Aside0.mk (below_step (by repeat (first | (with_reducible first | exact HB.out | apply below_alloc | apply pw_below_drewN | apply below_drew1 | refine below_set ?_ GE141.out) | exact HB.out)) hb)
                                            clear HO_9
                                            clear HO172
                                            clear BK141
                                            clear HR169
                                            clear HB
                                            have HO_9 := n0_
                                            have HO172 := n1_
                                            have HO175 := n2_
                                            have BK141 := n3_
                                            have HR169 := n4_
                                            have HB := n5_
                                            clear n0_ n1_ n2_ n3_ n4_ n5_
                                            clear hb ho69
                                            refine hK.out _ _ ⟨(blk_cell BK141.out 0).trans rfl, (blk_cell BK141.out 1).trans rfl, (blk_cell BK141.out 2).trans rfl, (blk_cell BK141.out 3).trans rfl, (blk_cell BK141.out 4).trans rfl, (blk_cell BK141.out 5).trans rfl, (blk_cell BK141.out 6).trans rfl, (blk_cell BK141.out 7).trans rfl⟩ (fun hHeld => ?_)
                                            clear hK K
                                            refine norm_ (a' := ?_) ?_ ?_
                                            rotate_left
                                            · show Act.put _ (some 100) _ = _
                                              simp only [Act.put, List.setIfInBounds_toArray, List.set_cons_zero, List.set_cons_succ, i64_w, i32_w]
                                              rfl
                                            exact norm_ (by simp only [putAll, Act.put, List.setIfInBounds_toArray, List.set_cons_zero, List.set_cons_succ]) (hCont (v171, v174) _ ⟨hHeld, (by (with_reducible repeat (first | apply Kd.R_alloc | apply Kd.R_drewN | apply Kd.R_drew)); exact Kd.R_mono HO172.out (fun _ hk => ⟨hk.2, ⟨hk.1.1, hk.1.2⟩⟩)), (by (with_reducible repeat (first | apply Kd.R_alloc | apply Kd.R_drewN | apply Kd.R_drew)); exact Kd.R_mono HO175.out (fun _ hk => ⟨hk.1.2, ⟨hk.1.1.2, hk.2⟩⟩)), (by (with_reducible repeat (first | apply Kd.R_alloc | apply Kd.R_drewN | apply Kd.R_drew)); exact Kd.R_mono HO_9.out (fun _ hk => ⟨hk.1.2, ⟨hk.2, hk.1.1⟩⟩)), (by (with_reducible repeat (first | refine blk_drewN ?_ _ | refine blk_drew ?_ | refine blk_alloc ?_ _)); exact BK141.out), (by repeat (first | (with_reducible first | exact HB.out | apply below_alloc | apply pw_below_drewN | apply below_drew1 | refine below_set ?_ GE141.out) | exact HB.out))⟩)
                                          · skip
                                            refine Kd.R_lit_step k24 _ 24 ?hg (N := 100) ?hd (xs := ([(⟨((rd_T24 l0 x10_1).f0), ((rd_T24 l0 x10_1).f1), ((rd_T24 l0 x10_1).f2), ((rd_T24 l0 x10_1).f3), ((rd_T24 l0 x10_1).f4), ((rd_T24 l0 x10_1).f5), ((rd_T24 l0 x10_1).f6), ((rd_T24 l0 x10_1).f7)⟩ : S24)] : List (S24))) (inner := [.int .i64 ((rd_T24 l0 x10_1).f0), .string ((rd_T24 l0 x10_1).f1), .string ((rd_T24 l0 x10_1).f2), .int .i64 ((rd_T24 l0 x10_1).f3), .int .i64 ((rd_T24 l0 x10_1).f4), .int .i64 ((rd_T24 l0 x10_1).f5), .int .i64 ((rd_T24 l0 x10_1).f6), .bool ((rd_T24 l0 x10_1).f7)]) (ok := fun _ => True) (okp := fun _ => True) ?hr ?hp (fun _ hk => hk) trivial (Below.refl _ _) (Nat.le_refl _) (by simp) ?_; (case hd => rfl); (case hg => rfl); (case hr => first | (go_simp; done) | (go_simp; rfl)); (case hp => exact (Reps.c8 (show Kd.M k24 _ _ _ (⟨((rd_T24 l0 x10_1).f0), ((rd_T24 l0 x10_1).f1), ((rd_T24 l0 x10_1).f2), ((rd_T24 l0 x10_1).f3), ((rd_T24 l0 x10_1).f4), ((rd_T24 l0 x10_1).f5), ((rd_T24 l0 x10_1).f6), ((rd_T24 l0 x10_1).f7)⟩ : S24) [.int .i64 ((rd_T24 l0 x10_1).f0), .string ((rd_T24 l0 x10_1).f1), .string ((rd_T24 l0 x10_1).f2), .int .i64 ((rd_T24 l0 x10_1).f3), .int .i64 ((rd_T24 l0 x10_1).f4), .int .i64 ((rd_T24 l0 x10_1).f5), .int .i64 ((rd_T24 l0 x10_1).f6), .bool ((rd_T24 l0 x10_1).f7)] from (k24_mkM _ _ _ (⟨((rd_T24 l0 x10_1).f0), ((rd_T24 l0 x10_1).f1), ((rd_T24 l0 x10_1).f2), ((rd_T24 l0 x10_1).f3), ((rd_T24 l0 x10_1).f4), ((rd_T24 l0 x10_1).f5), ((rd_T24 l0 x10_1).f6), ((rd_T24 l0 x10_1).f7)⟩ : S24) )) (Reps.none _ _)))
                                            intro v174 w67 ho68 hb hg_ hnew_
                                            clear hg_ hnew_
                                            (first | rw [← Ny173.out] at ho68 | (simp only [Int.reduceToNat] at ho68; rw [← Ny173.out] at ho68))
                                            have n0_ := Aside0.mk (Kd.R_elder' (by (with_reducible repeat (first | apply Kd.R_alloc | apply Kd.R_drewN | apply Kd.R_drew)); exact HO_9.out) (Kd.R_base ho68) hb)
                                            have n1_ := Aside0.mk (Kd.R_lower (Kd.R_newB (Kd.R_new' ho68 (Kd.R_lt (by (with_reducible repeat (first | apply Kd.R_alloc | apply Kd.R_drewN | apply Kd.R_drew)); exact HO_9.out))) (g := gb141) (o := .cells #[.int .i64 ((rd_T24 l0 x10_1).f0), .string ((rd_T24 l0 x10_1).f1), .string ((rd_T24 l0 x10_1).f2), .int .i64 ((rd_T24 l0 x10_1).f3), .int .i64 ((rd_T24 l0 x10_1).f4), .int .i64 ((rd_T24 l0 x10_1).f5), .int .i64 ((rd_T24 l0 x10_1).f6), .bool ((rd_T24 l0 x10_1).f7)] 24 (0, 0)) (by (with_reducible repeat (first | refine blk_drewN ?_ _ | refine blk_drew ?_ | refine blk_alloc ?_ _)); exact BK141.out)) (below_size (by repeat (first | (with_reducible first | exact HB.out | apply below_alloc | apply pw_below_drewN | apply below_drew1 | refine below_set ?_ GE141.out) | exact HB.out))))
                                            have n2_ := Aside0.mk (blk_below (g := gb141) (o := .cells #[.int .i64 ((rd_T24 l0 x10_1).f0), .string ((rd_T24 l0 x10_1).f1), .string ((rd_T24 l0 x10_1).f2), .int .i64 ((rd_T24 l0 x10_1).f3), .int .i64 ((rd_T24 l0 x10_1).f4), .int .i64 ((rd_T24 l0 x10_1).f5), .int .i64 ((rd_T24 l0 x10_1).f6), .bool ((rd_T24 l0 x10_1).f7)] 24 (0, 0)) (by (with_reducible repeat (first | refine blk_drewN ?_ _ | refine blk_drew ?_ | refine blk_alloc ?_ _)); exact BK141.out) hb)
                                            have n3_ := Aside0.mk (Kd.C_below (by repeat (first | (with_reducible exact HR169.out) | (with_reducible refine Kd.C_alloc ?_ _) | (with_reducible refine Kd.C_drewN ?_ _) | (with_reducible refine Kd.C_drew ?_) | exact HR169.out)) hb)
                                            have n4_ := Aside0.mk (below_step (by repeat (first | (with_reducible first | exact HB.out | apply below_alloc | apply pw_below_drewN | apply below_drew1 | refine below_set ?_ GE141.out) | exact HB.out)) hb)
                                            clear HO_9
                                            clear BK141
                                            clear HR169
                                            clear HB
                                            have HO_9 := n0_
                                            have HO175 := n1_
                                            have BK141 := n2_
                                            have HR169 := n3_
                                            have HB := n4_
                                            clear n0_ n1_ n2_ n3_ n4_
                                            clear hb ho68
                                            refine hK.out _ _ ⟨(blk_cell BK141.out 0).trans rfl, (blk_cell BK141.out 1).trans rfl, (blk_cell BK141.out 2).trans rfl, (blk_cell BK141.out 3).trans rfl, (blk_cell BK141.out 4).trans rfl, (blk_cell BK141.out 5).trans rfl, (blk_cell BK141.out 6).trans rfl, (blk_cell BK141.out 7).trans rfl⟩ (fun hHeld => ?_)
                                            clear hK K
                                            refine norm_ (a' := ?_) ?_ ?_
                                            rotate_left
                                            · show Act.put _ (some 100) _ = _
                                              simp only [Act.put, List.setIfInBounds_toArray, List.set_cons_zero, List.set_cons_succ, i64_w, i32_w]
                                              rfl
                                            refine one_ (i := 4) (N := some 98) #[true, true, true, true, true, true, true, false, false] rfl rfl (one_of HT_.out (by kernel_rfl)) (by decide) (fun K hK => ?_)
                                            refine Kd.R_append_rows_step k24 (w0 := w) w.heap.size (by rfl) (.tmp 94) (.tmp 97) 22 24 (.agg #[(.int .i64 0), (.string ⟨#[]⟩), (.string ⟨#[]⟩), (.int .i64 0), (.int .i64 0), (.int .i64 0), (.int .i64 0), (.bool false)]) 80 rfl Try.underlying22 info24 rfl (by decide) (by omega) (.slice none 0 0) ([] : List (S24)) y166 _ _ _ (fun k_ => some k_ ≠ (.slice Ao64 x9_1.length co64 : Value).ownBlock ∧ some k_ ≠ (v174 : Value).ownBlock ∧ k_ ≠ gb141) (fun _ => False) rfl rfl ?aO ?aR (fun _ _ h => h) (fun _ h => h.elim) ?aF ?aB ?aS ?aL ?_
                                            (case aR => repeat (first | exact (by repeat (first | (with_reducible exact HR169.out) | (with_reducible refine Kd.C_alloc ?_ _) | (with_reducible refine Kd.C_drewN ?_ _) | (with_reducible refine Kd.C_drew ?_) | exact HR169.out)) | (with_reducible refine Kd.C_alloc ?_ _) | (with_reducible refine Kd.C_drewN ?_ _) | (with_reducible refine Kd.C_drew ?_)))
                                            (case aB => exact (by repeat (first | (with_reducible first | exact HB.out | apply below_alloc | apply pw_below_drewN | apply below_drew1 | refine below_set ?_ GE141.out) | exact HB.out)))
                                            (case aF => exact (fun k_ hk => ⟨Kd.fresh' (Kd.R_lt (by (with_reducible repeat (first | apply Kd.R_alloc | apply Kd.R_drewN | apply Kd.R_drew)); exact HO_9.out)) k_ hk, Kd.fresh' (Kd.R_lt (by (with_reducible repeat (first | apply Kd.R_alloc | apply Kd.R_drewN | apply Kd.R_drew)); exact HO175.out)) k_ hk, Kd.freshB (g := gb141) (o := .cells #[.int .i64 ((rd_T24 l0 x10_1).f0), .string ((rd_T24 l0 x10_1).f1), .string ((rd_T24 l0 x10_1).f2), .int .i64 ((rd_T24 l0 x10_1).f3), .int .i64 ((rd_T24 l0 x10_1).f4), .int .i64 ((rd_T24 l0 x10_1).f5), .int .i64 ((rd_T24 l0 x10_1).f6), .bool ((rd_T24 l0 x10_1).f7)] 24 (0, 0)) (by (with_reducible repeat (first | refine blk_drewN ?_ _ | refine blk_drew ?_ | refine blk_alloc ?_ _)); exact BK141.out) k_ hk⟩))
                                            (case aO => exact ((Kd.R_nil _ _ _ _ (fun k_ => some k_ ≠ (.slice Ao64 x9_1.length co64 : Value).ownBlock ∧ some k_ ≠ (v174 : Value).ownBlock ∧ k_ ≠ gb141))))
                                            (case aS => exact (below_size (by repeat (first | (with_reducible first | exact HB.out | apply below_alloc | apply pw_below_drewN | apply below_drew1 | refine below_set ?_ GE141.out) | exact HB.out))))
                                            (case aL => have := LMc58.out; omega)
                                            intro v171 w69 ho hb hg hat
                                            rw [← Ny170.out] at ho
                                            have n0_ := Aside0.mk (Kd.R_after (Kd.R_apart_nil (by (with_reducible repeat (first | apply Kd.R_alloc | apply Kd.R_drewN | apply Kd.R_drew)); exact HO_9.out)) hg hat)
                                            have n1_ := Aside0.mk (blk_grown (g := gb141) (o := .cells #[.int .i64 ((rd_T24 l0 x10_1).f0), .string ((rd_T24 l0 x10_1).f1), .string ((rd_T24 l0 x10_1).f2), .int .i64 ((rd_T24 l0 x10_1).f3), .int .i64 ((rd_T24 l0 x10_1).f4), .int .i64 ((rd_T24 l0 x10_1).f5), .int .i64 ((rd_T24 l0 x10_1).f6), .bool ((rd_T24 l0 x10_1).f7)] 24 (0, 0)) (by (with_reducible repeat (first | refine blk_drewN ?_ _ | refine blk_drew ?_ | refine blk_alloc ?_ _)); exact BK141.out) hg (by simp [Value.ownBlock]))
                                            have n2_ := Aside0.mk (Kd.R_after (Kd.R_apart_nil (by (with_reducible repeat (first | apply Kd.R_alloc | apply Kd.R_drewN | apply Kd.R_drew)); exact HO175.out)) hg hat)
                                            have n3_ := Aside0.mk (hb)
                                            have n4_ := Aside0.mk ((show Kd.C k24 w69 Ao64 y166.length y166 from by rw [Ny166.out]; exact Kd.C_take (m := (x14_4 : Int).toNat) ((Kd.R_reads' (Kd.R_after (Kd.R_apart_nil (by (with_reducible repeat (first | apply Kd.R_alloc | apply Kd.R_drewN | apply Kd.R_drew)); exact HO_9.out)) hg hat)).2.2) KL66.out))
                                            have n5_ := Aside0.mk (ho)
                                            clear HO_9
                                            clear BK141
                                            clear HO175
                                            clear HB
                                            clear HR169
                                            have HO_9 := n0_
                                            have BK141 := n1_
                                            have HO175 := n2_
                                            have HB := n3_
                                            have HR169 := n4_
                                            have HO172 := n5_
                                            clear n0_ n1_ n2_ n3_ n4_ n5_
                                            clear ho hb hg hat
                                            refine hK.out _ _ ⟨(blk_cell BK141.out 0).trans rfl, (blk_cell BK141.out 1).trans rfl, (blk_cell BK141.out 2).trans rfl, (blk_cell BK141.out 3).trans rfl, (blk_cell BK141.out 4).trans rfl, (blk_cell BK141.out 5).trans rfl, (blk_cell BK141.out 6).trans rfl, (blk_cell BK141.out 7).trans rfl⟩ (fun hHeld => ?_)
                                            clear hK K
                                            refine norm_ (a' := ?_) ?_ ?_
                                            rotate_left
                                            · show Act.put _ (some 98) _ = _
                                              simp only [Act.put, List.setIfInBounds_toArray, List.set_cons_zero, List.set_cons_succ, i64_w, i32_w]
                                              rfl
                                            exact norm_ (by simp only [putAll, Act.put, List.setIfInBounds_toArray, List.set_cons_zero, List.set_cons_succ]) (hCont (v171, v174) _ ⟨hHeld, (by (with_reducible repeat (first | apply Kd.R_alloc | apply Kd.R_drewN | apply Kd.R_drew)); exact Kd.R_mono HO172.out (fun _ hk => ⟨hk.2.1, ⟨hk.1, hk.2.2⟩⟩)), (by (with_reducible repeat (first | apply Kd.R_alloc | apply Kd.R_drewN | apply Kd.R_drew)); exact Kd.R_mono HO175.out (fun _ hk => ⟨hk.2, ⟨hk.1.1.2, hk.1.2⟩⟩)), (by (with_reducible repeat (first | apply Kd.R_alloc | apply Kd.R_drewN | apply Kd.R_drew)); exact Kd.R_mono HO_9.out (fun _ hk => ⟨hk.2, ⟨hk.1.2, hk.1.1⟩⟩)), (by (with_reducible repeat (first | refine blk_drewN ?_ _ | refine blk_drew ?_ | refine blk_alloc ?_ _)); exact BK141.out), (by repeat (first | (with_reducible first | exact HB.out | apply below_alloc | apply pw_below_drewN | apply below_drew1 | refine below_set ?_ GE141.out) | exact HB.out))⟩)
                                        rintro ⟨v171, v174⟩ w70 ⟨hS_, h0_, h1_, h2_, h3_, h4_⟩
                                        have n0_ : Aside0 (Kd.R k24 24 w70 w.heap.size (fun k_ => some k_ ≠ (v174 : Value).ownBlock ∧ some k_ ≠ (.slice Ao64 x9_1.length co64 : Value).ownBlock ∧ k_ ≠ gb141) v171 y170) := ⟨h0_⟩
                                        have n1_ : Aside0 (Kd.R k24 24 w70 w.heap.size (fun k_ => some k_ ≠ (v171 : Value).ownBlock ∧ some k_ ≠ (.slice Ao64 x9_1.length co64 : Value).ownBlock ∧ k_ ≠ gb141) v174 y173) := ⟨h1_⟩
                                        have n2_ : Aside0 (Kd.R k24 24 w70 w.heap.size (fun k_ => some k_ ≠ (v171 : Value).ownBlock ∧ some k_ ≠ (v174 : Value).ownBlock ∧ k_ ≠ gb141) (.slice Ao64 x9_1.length co64) x9_1) := ⟨h2_⟩
                                        have n3_ : Aside0 (w70.heap[gb141]? = some (.cells #[.int .i64 ((rd_T24 l0 x10_1).f0), .string ((rd_T24 l0 x10_1).f1), .string ((rd_T24 l0 x10_1).f2), .int .i64 ((rd_T24 l0 x10_1).f3), .int .i64 ((rd_T24 l0 x10_1).f4), .int .i64 ((rd_T24 l0 x10_1).f5), .int .i64 ((rd_T24 l0 x10_1).f6), .bool ((rd_T24 l0 x10_1).f7)] 24 (0, 0))) := ⟨h3_⟩
                                        have n4_ : Aside0 (Below w.heap.size w w70) := ⟨h4_⟩
                                        clear HO_9
                                        clear BK141
                                        clear HB
                                        clear h0_ h1_ h2_ h3_ h4_
                                        have HO172 := n0_
                                        have HO175 := n1_
                                        have HO_9 := n2_
                                        have BK141 := n3_
                                        have HB := n4_
                                        clear n0_ n1_ n2_ n3_ n4_
                                        have hHeld : w70.cell? ⟨gb141, 0, none⟩ = some (.int .i64 ((rd_T24 l0 x10_1).f0)) ∧ w70.cell? ⟨gb141, 1, none⟩ = some (.string ((rd_T24 l0 x10_1).f1)) ∧ w70.cell? ⟨gb141, 2, none⟩ = some (.string ((rd_T24 l0 x10_1).f2)) ∧ w70.cell? ⟨gb141, 3, none⟩ = some (.int .i64 ((rd_T24 l0 x10_1).f3)) ∧ w70.cell? ⟨gb141, 4, none⟩ = some (.int .i64 ((rd_T24 l0 x10_1).f4)) ∧ w70.cell? ⟨gb141, 5, none⟩ = some (.int .i64 ((rd_T24 l0 x10_1).f5)) ∧ w70.cell? ⟨gb141, 6, none⟩ = some (.int .i64 ((rd_T24 l0 x10_1).f6)) ∧ w70.cell? ⟨gb141, 7, none⟩ = some (.bool ((rd_T24 l0 x10_1).f7)) := hS_
                                        obtain ⟨Ao72, co72, eo72⟩ := Kd.R_slice HO175.out
                                        (first | subst eo72 | (injection eo72 with f1_ f2_ f3_; have f4_ := f1_.symm; have f5_ := f3_.symm; clear f1_ f2_ f3_; subst f4_; subst f5_))
                                        refine norm_ (a' := ?_) ?_ ?_
                                        rotate_left
                                        · simp only [putAll, Act.put, List.setIfInBounds_toArray, List.set_cons_zero, List.set_cons_succ]
                                          rfl
                                        refine one_ (i := 7) (N := some 101) #[true, true, true, true, true, true, true, true, false] rfl rfl (one_of HT_.out (by kernel_rfl)) (by decide) (fun K hK => ?_)
                                        refine Kd.R_append_rows_step k24 (w0 := w) w.heap.size (by rfl) (.tmp 98) (.tmp 100) 22 24 (.agg #[(.int .i64 0), (.string ⟨#[]⟩), (.string ⟨#[]⟩), (.int .i64 0), (.int .i64 0), (.int .i64 0), (.int .i64 0), (.bool false)]) 80 rfl Try.underlying22 info24 rfl (by decide) (by omega) v171 y170 y173 _ _ _ (fun k_ => some k_ ≠ (.slice Ao64 x9_1.length co64 : Value).ownBlock ∧ some k_ ≠ (.slice Ao72 y173.length co72 : Value).ownBlock ∧ k_ ≠ gb141) (fun _ => False) rfl rfl ?aO ?aR (fun _ _ h => h) (fun _ h => h.elim) ?aF ?aB ?aS ?aL ?_
                                        (case aR => repeat (first | exact (Kd.R_reads' HO175.out).2.2 | (with_reducible refine Kd.C_alloc ?_ _) | (with_reducible refine Kd.C_drewN ?_ _) | (with_reducible refine Kd.C_drew ?_)))
                                        (case aB => exact (by repeat (first | (with_reducible first | exact HB.out | apply below_alloc | apply pw_below_drewN | apply below_drew1 | refine below_set ?_ GE141.out) | exact HB.out)))
                                        (case aF => exact (fun k_ hk => ⟨Kd.fresh' (Kd.R_lt (by (with_reducible repeat (first | apply Kd.R_alloc | apply Kd.R_drewN | apply Kd.R_drew)); exact HO_9.out)) k_ hk, Kd.fresh' (Kd.R_lt (by (with_reducible repeat (first | apply Kd.R_alloc | apply Kd.R_drewN | apply Kd.R_drew)); exact HO175.out)) k_ hk, Kd.freshB (g := gb141) (o := .cells #[.int .i64 ((rd_T24 l0 x10_1).f0), .string ((rd_T24 l0 x10_1).f1), .string ((rd_T24 l0 x10_1).f2), .int .i64 ((rd_T24 l0 x10_1).f3), .int .i64 ((rd_T24 l0 x10_1).f4), .int .i64 ((rd_T24 l0 x10_1).f5), .int .i64 ((rd_T24 l0 x10_1).f6), .bool ((rd_T24 l0 x10_1).f7)] 24 (0, 0)) (by (with_reducible repeat (first | refine blk_drewN ?_ _ | refine blk_drew ?_ | refine blk_alloc ?_ _)); exact BK141.out) k_ hk⟩))
                                        (case aO => exact (by (with_reducible repeat (first | apply Kd.R_alloc | apply Kd.R_drewN | apply Kd.R_drew)); exact Kd.R_mono HO172.out (fun _ hk => ⟨hk.2.1, ⟨hk.1, hk.2.2⟩⟩)))
                                        (case aS => exact (below_size (by repeat (first | (with_reducible first | exact HB.out | apply below_alloc | apply pw_below_drewN | apply below_drew1 | refine below_set ?_ GE141.out) | exact HB.out))))
                                        (case aL => have := LMc59.out; omega)
                                        intro v177 w71 ho hb hg hat
                                        rw [← Ny176.out] at ho
                                        have n0_ := Aside0.mk (Kd.R_after (ok := (fun k_ => some k_ ≠ (.slice Ao72 y173.length co72 : Value).ownBlock ∧ k_ ≠ gb141)) (by (with_reducible repeat (first | apply Kd.R_alloc | apply Kd.R_drewN | apply Kd.R_drew)); exact Kd.R_mono HO_9.out (fun _ hk => ⟨⟨hk.2.1, hk.2.2⟩, hk.1⟩)) hg hat)
                                        have n1_ := Aside0.mk (blk_grown (g := gb141) (o := .cells #[.int .i64 ((rd_T24 l0 x10_1).f0), .string ((rd_T24 l0 x10_1).f1), .string ((rd_T24 l0 x10_1).f2), .int .i64 ((rd_T24 l0 x10_1).f3), .int .i64 ((rd_T24 l0 x10_1).f4), .int .i64 ((rd_T24 l0 x10_1).f5), .int .i64 ((rd_T24 l0 x10_1).f6), .bool ((rd_T24 l0 x10_1).f7)] 24 (0, 0)) (by (with_reducible repeat (first | refine blk_drewN ?_ _ | refine blk_drew ?_ | refine blk_alloc ?_ _)); exact BK141.out) hg (Kd.R_away HO172.out (fun _ hk => hk.2.2)))
                                        have n2_ := Aside0.mk (Kd.R_after (ok := (fun k_ => some k_ ≠ (.slice Ao64 x9_1.length co64 : Value).ownBlock ∧ k_ ≠ gb141)) (by (with_reducible repeat (first | apply Kd.R_alloc | apply Kd.R_drewN | apply Kd.R_drew)); exact Kd.R_mono HO175.out (fun _ hk => ⟨⟨hk.2.1, hk.2.2⟩, hk.1⟩)) hg hat)
                                        have n3_ := Aside0.mk (hb)
                                        have n4_ := Aside0.mk (ho)
                                        clear HO_9
                                        clear BK141
                                        clear HO175
                                        clear HB
                                        clear HO172
                                        have HO_9 := n0_
                                        have BK141 := n1_
                                        have HO175 := n2_
                                        have HB := n3_
                                        have HO178 := n4_
                                        clear n0_ n1_ n2_ n3_ n4_
                                        clear ho hb hg hat
                                        refine hK.out _ _ ⟨(blk_cell BK141.out 0).trans rfl, (blk_cell BK141.out 1).trans rfl, (blk_cell BK141.out 2).trans rfl, (blk_cell BK141.out 3).trans rfl, (blk_cell BK141.out 4).trans rfl, (blk_cell BK141.out 5).trans rfl, (blk_cell BK141.out 6).trans rfl, (blk_cell BK141.out 7).trans rfl⟩ (fun hHeld => ?_)
                                        clear hK K
                                        refine norm_ (a' := ?_) ?_ ?_
                                        rotate_left
                                        · show Act.put _ (some 101) _ = _
                                          simp only [Act.put, List.setIfInBounds_toArray, List.set_cons_zero, List.set_cons_succ, i64_w, i32_w]
                                          rfl
                                        refine pure_ (i := 8) (N := some 15) (v := ?_) (a' := ?_) #[true, true, true, true, true, true, true, true, true] rfl rfl (any_of HT_.out (by kernel_rfl)) (fun _ _ _ h => h) (Or.inl ⟨by rfl, ?_⟩) ?_ ?_
                                        rotate_left
                                        · intro w'
                                          go_simp
                                          with_reducible rfl
                                        rotate_left
                                        · simp only [Act.put, List.setIfInBounds_toArray, List.set_cons_zero, List.set_cons_succ, i64_w, i32_w]
                                          rfl
                                        refine done_ (done_of HT_.out (by kernel_rfl)) ?_
                                        have q73 : (x14_4 : Int) ≤ ((x9_1.length : Int) : Int) := of_decide_eq_true (by first | (with_reducible assumption) | assumption)
                                        obtain ⟨i073, hi073, _, hsz73, _⟩ := info_parts info24
                                        have hroom73 : x9_1.length ≤ co64 := (Kd.R_reads' HO_9.out).2.1
                                        have hC73 : Kd.C k24 _ Ao64 x9_1.length x9_1 := (Kd.R_reads' HO_9.out).2.2
                                        have q073 : (0 : Int) ≤ (x14_4 : Int) := of_decide_eq_true (by first | (with_reducible assumption) | assumption)
                                        have hcut73 := cut_from (P := Try.prog) 22 24 .i64 Try.underlying22 hi073 8 hsz73 Ao64 x9_1.length co64 x14_4 q073 q73
                                        have hr73 := Kd.C_drop (m := (x14_4 : Int).toNat) (c := co64) hC73 (by omega) hroom73
                                        obtain ⟨A73, hA73⟩ : ∃ A1, A1 = (if co64 = (x14_4 : Int).toNat then Ao64 else (Ao64 : Option Addr).map (·.add ((x14_4 : Int).toNat * 8))) := ⟨_, rfl⟩
                                        obtain ⟨c73, hc73⟩ : ∃ c1, c1 = co64 - (x14_4 : Int).toNat := ⟨_, rfl⟩
                                        have hy73 : y179.length = x9_1.length - (x14_4 : Int).toNat := (by rw [Ny179.out, List.length_drop] <;> omega)
                                        rw [show (x9_1).drop (x14_4 : Int).toNat = y179 from Ny179.out.symm] at hr73
                                        replace hr73 : Kd.C k24 _ A73 y179.length y179 := (by rw [hA73]; exact hr73)
                                        rw [← hy73, ← hA73, ← hc73] at hcut73
                                        have HR182 := Aside0.mk hr73
                                        have HC182 := Aside0.mk (show y179.length ≤ c73 from by rw [hy73, hc73]; exact Nat.sub_le_sub_right hroom73 _)
                                        clear hr73 hC73 hroom73 hi073 hsz73 hc73
                                        have KY73 := Aside0.mk hy73
                                        have KA73 := Aside0.mk hA73
                                        clear hy73 hA73
                                        have KL73 := Aside0.mk (show (x14_4 : Int).toNat ≤ x9_1.length from by omega)
                                        replace q73 := eq_true q73
                                        try go_wp2_with (first | ((with_reducible refine gate_builtin (b := .append) (xs := #[.tmp 102, .tmp 105]) rfl ?_); at_builtin; refine Kd.R_append_rows k24 (w0 := w) w.heap.size rfl (.tmp 102) (.tmp 105) 22 24 (.agg #[(.int .i64 0), (.string ⟨#[]⟩), (.string ⟨#[]⟩), (.int .i64 0), (.int .i64 0), (.int .i64 0), (.int .i64 0), (.bool false)]) 80 rfl Try.underlying22 info24 rfl (by decide) (by omega) v177 y176 y179 _ _ _ (fun k_ => some k_ ≠ (.slice Ao64 x9_1.length co64 : Value).ownBlock ∧ some k_ ≠ (.slice Ao72 y173.length co72 : Value).ownBlock ∧ k_ ≠ gb141) (fun _ => False) rfl rfl ?aO ?aR (fun _ _ h => h) (fun _ h => h.elim) ?aF ?aB ?aS ?aL ?_; (case aR => repeat (first | exact (by repeat (first | (with_reducible exact HR182.out) | (with_reducible refine Kd.C_alloc ?_ _) | (with_reducible refine Kd.C_drewN ?_ _) | (with_reducible refine Kd.C_drew ?_) | exact HR182.out)) | (with_reducible refine Kd.C_alloc ?_ _) | (with_reducible refine Kd.C_drewN ?_ _) | (with_reducible refine Kd.C_drew ?_))); (case aB => exact (by repeat (first | (with_reducible first | exact HB.out | apply below_alloc | apply pw_below_drewN | apply below_drew1 | refine below_set ?_ GE141.out) | exact HB.out))); (case aF => exact (fun k_ hk => ⟨Kd.fresh' (Kd.R_lt (by (with_reducible repeat (first | apply Kd.R_alloc | apply Kd.R_drewN | apply Kd.R_drew)); exact HO_9.out)) k_ hk, Kd.fresh' (Kd.R_lt (by (with_reducible repeat (first | apply Kd.R_alloc | apply Kd.R_drewN | apply Kd.R_drew)); exact HO175.out)) k_ hk, Kd.freshB (g := gb141) (o := .cells #[.int .i64 ((rd_T24 l0 x10_1).f0), .string ((rd_T24 l0 x10_1).f1), .string ((rd_T24 l0 x10_1).f2), .int .i64 ((rd_T24 l0 x10_1).f3), .int .i64 ((rd_T24 l0 x10_1).f4), .int .i64 ((rd_T24 l0 x10_1).f5), .int .i64 ((rd_T24 l0 x10_1).f6), .bool ((rd_T24 l0 x10_1).f7)] 24 (0, 0)) (by (with_reducible repeat (first | refine blk_drewN ?_ _ | refine blk_drew ?_ | refine blk_alloc ?_ _)); exact BK141.out) k_ hk⟩)); (case aO => exact (by (with_reducible repeat (first | apply Kd.R_alloc | apply Kd.R_drewN | apply Kd.R_drew)); exact HO178.out)); (case aS => exact (below_size (by repeat (first | (with_reducible first | exact HB.out | apply below_alloc | apply pw_below_drewN | apply below_drew1 | refine below_set ?_ GE141.out) | exact HB.out)))); (case aL => have := LMc62.out; omega); intro v184 w74 ho hb hg hat; rw [← Ny183.out] at ho; have n0_ := Aside0.mk (Kd.R_after (ok := (fun k_ => some k_ ≠ (.slice Ao72 y173.length co72 : Value).ownBlock ∧ k_ ≠ gb141)) (by (with_reducible repeat (first | apply Kd.R_alloc | apply Kd.R_drewN | apply Kd.R_drew)); exact HO_9.out) hg hat); have n1_ := Aside0.mk (blk_grown (g := gb141) (o := .cells #[.int .i64 ((rd_T24 l0 x10_1).f0), .string ((rd_T24 l0 x10_1).f1), .string ((rd_T24 l0 x10_1).f2), .int .i64 ((rd_T24 l0 x10_1).f3), .int .i64 ((rd_T24 l0 x10_1).f4), .int .i64 ((rd_T24 l0 x10_1).f5), .int .i64 ((rd_T24 l0 x10_1).f6), .bool ((rd_T24 l0 x10_1).f7)] 24 (0, 0)) (by (with_reducible repeat (first | refine blk_drewN ?_ _ | refine blk_drew ?_ | refine blk_alloc ?_ _)); exact BK141.out) hg (Kd.R_away HO178.out (fun _ hk => hk.2.2))); have n2_ := Aside0.mk (Kd.R_after (ok := (fun k_ => some k_ ≠ (.slice Ao64 x9_1.length co64 : Value).ownBlock ∧ k_ ≠ gb141)) (by (with_reducible repeat (first | apply Kd.R_alloc | apply Kd.R_drewN | apply Kd.R_drew)); exact HO175.out) hg hat); have n3_ := Aside0.mk (hb); have n4_ := Aside0.mk ((show Kd.C k24 w74 A73 y179.length y179 from by rw [Ny179.out, KA73.out]; exact Kd.C_drop (m := (x14_4 : Int).toNat) (c := co64) ((Kd.R_reads' (Kd.R_after (ok := (fun k_ => some k_ ≠ (.slice Ao72 y173.length co72 : Value).ownBlock ∧ k_ ≠ gb141)) (by (with_reducible repeat (first | apply Kd.R_alloc | apply Kd.R_drewN | apply Kd.R_drew)); exact HO_9.out) hg hat)).2.2) KL73.out ((Kd.R_reads' (Kd.R_after (ok := (fun k_ => some k_ ≠ (.slice Ao72 y173.length co72 : Value).ownBlock ∧ k_ ≠ gb141)) (by (with_reducible repeat (first | apply Kd.R_alloc | apply Kd.R_drewN | apply Kd.R_drew)); exact HO_9.out) hg hat)).2.1))); have n5_ := Aside0.mk (ho); clear HO_9; clear BK141; clear HO175; clear HB; clear HR182; clear HO178; have HO_9 := n0_; have BK141 := n1_; have HO175 := n2_; have HB := n3_; have HR182 := n4_; have HO185 := n5_; clear n0_ n1_ n2_ n3_ n4_ n5_; clear ho hb hg hat))
                                        go_roundg k4
                                        case measure => have := HK1.out; have := HJ9.out; have := HJ20.out; have := HK4.out; omega
                                        case rel => exact ⟨(y183), (wrap64 (x10_1 + 1)), (by first | rfl | (simp; done) | (simp [*]; done)), H', ⟨by have := HK1.out; have := HJ9.out; have := HJ20.out; have := HK4.out; omega⟩, ⟨by (with_reducible repeat (first | apply Kd.R_alloc | apply Kd.R_drewN | apply Kd.R_drew)); exact Kd.R_mono HO185.out (fun _ hk => trivial)⟩, ⟨by repeat (first | (with_reducible first | exact HB.out | apply below_alloc | apply pw_below_drewN | apply below_drew1 | refine below_set ?_ GE141.out) | exact HB.out)⟩⟩
                                      · rw [if_neg c62] at H
                                        exact absurd H (by simp)
                                    · rw [if_neg c59] at H
                                      exact absurd H (by simp)
                                  · rw [if_neg c58] at H
                                    exact absurd H (by simp)
                                · rw [if_neg c57] at H
                                  exact absurd H (by simp)
                              · rw [if_neg c56] at H
                                exact absurd H (by simp)
                      · replace c28 := Bool.eq_false_iff.mpr c28
                        subst c28
                        have H1 : (wageofficeref31_Open.l0 kj20 l0 a1 a2 a3 x9_1 (wrap64 (x10_1 + 1))) = some r := by rw [if_neg (show ¬ (false = true) by decide)] at H; exact H
                        clear H
                        have H := H1
                        clear H1
                        have H' := Aside0.mk H
                        clear H
                        go_wp2
                        go_roundg kj20
                        case measure => have := HK1.out; have := HJ9.out; have := HJ20.out; omega
                        case rel => exact ⟨(x9_1), (wrap64 (x10_1 + 1)), (by first | rfl | (simp; done) | (simp [*]; done)), H', ⟨by have := HK1.out; have := HJ9.out; have := HJ20.out; omega⟩, ⟨by (with_reducible repeat (first | apply Kd.R_alloc | apply Kd.R_drewN | apply Kd.R_drew)); exact Kd.R_mono HO_9.out (fun _ hk => trivial)⟩, ⟨by repeat (first | (with_reducible first | exact HB.out | apply below_alloc | apply pw_below_drewN | apply below_drew1 | refine below_set ?_ GE141.out) | exact HB.out)⟩⟩
          · rw [if_neg c9] at H
            exact absurd H (by simp)
        · rw [if_neg c8] at H
          have c8b0 : decide (x10_1 < (l0.length : Int)) = false := decide_eq_false c8
          clear c8
          obtain rfl := Option.some.inj H
          go_wp2
          go_ret
          exact ⟨_, by first | rfl | (simp [errW_none, errW_some] <;> rfl) | (simp [*, errW_none, errW_some] <;> rfl), by (with_reducible repeat (first | apply Kd.R_alloc | apply Kd.R_drewN | apply Kd.R_drew)); exact HO_9.out, by repeat (first | (with_reducible first | exact HB.out | apply below_alloc | apply pw_below_drewN | apply below_drew1) | exact HB.out)⟩
  · replace c6 := Bool.eq_false_iff.mpr c6
    subst c6
    have H1 : (some ([] : List (S24))) = some r := by rw [if_neg (show ¬ (false = true) by decide)] at H; exact H
    clear H
    have H := H1
    clear H1
    obtain rfl := Option.some.inj H
    go_enter Try.func18, Try.ntmps18
    go_wp2_with (first | ((with_reducible refine gate_callee (f := 15) rfl ?_); refine goesL_ (some 17) rfl rfl Try.func15 (by kernel_rfl) rfl #[.slice A0 l0.length c0] rfl (by (try simp only [List.map_toArray, List.map_cons, List.map_nil]); first | done | rfl | (simp only [List.length_drop, List.length_take]; rfl)) ?_; (with_reducible refine (wageofficeref31_Valid.calls _ _ l0 false _ ?side1 ?side2 A5.out).mono ?_); (case side1 => repeat (first | exact HR0.out | (with_reducible refine Kd.C_alloc ?_ _) | (with_reducible refine Kd.C_drewN ?_ _) | (with_reducible refine Kd.C_drew ?_))); (case side2 => exact HC0.out); rintro e w75 ⟨rfl, hb⟩; refine ⟨_, rfl, ?_⟩; have n0_ := Aside0.mk (below_step (by repeat (first | (with_reducible first | exact HB.out | apply below_alloc | apply pw_below_drewN | apply below_drew1) | exact HB.out)) hb); clear HB; have HB := n0_; clear n0_; (try clear hb); (try clear hb2); (try clear hk); (try clear hi)))
    go_ret
    exact ⟨_, by first | rfl | (simp [errW_none, errW_some] <;> rfl) | (simp [*, errW_none, errW_some] <;> rfl), by first | exact Kd.R_nil _ _ _ _ _ | exact Kd.N_nil _ _ _ _ _ | exact Kd.V_nil _ _ _ _ _ | exact Kd.Q_nil _ _ _ _ _ | exact Kd.S_nil _ _ _ _ _, by repeat (first | (with_reducible first | exact HB.out | apply below_alloc | apply pw_below_drewN | apply below_drew1) | exact HB.out)⟩
end Go.Proofs.Ytgbcihbnaecejaa.Q
