/- For any two lists of spans and any number, all functions on lists of spans give what the reference gives; conditions: the arguments are values that Go can hold, nothing else.
   The walk of the law's code and its plain law (merged by wip/tools/trim.py out of own texts and of texts that the kit's printer wrote). -/
import Derived.Test.YtgplnfhpeeifjaaCMatch6
import Derived.Deep.Slices
import Derived.ChangeArms
import Derived.WideShapes
import Derived.OpenShut
import Derived.KernelRfl
import Derived.Test.YtgplnfhpeeifjaaRows
import Derived.WalkKit
import Derived.ProofKit
import Derived.ShutString
import Derived.ChangeOld
import Derived.Below
import Derived.SizedLaws
namespace Go.Proofs.Ytgplnfhpeeifjaa.Q
open Go.RowKit Go.Proofs.YtgplnfhpeeifjaaW.PrintWords Go.Proofs.YtgplnfhpeeifjaaW.PrintLast Go.Proofs.YtgplnfhpeeifjaaW.PrintMore
attribute [local go_sem] max2_int min2_int max_two min_two max_three min_three max_four min_four   -- for this text's walks alone
set_option linter.unusedVariables false
set_option linter.unusedSimpArgs false
def wageofficelaw04_SpanMatchesReference.f (k : Nat) (l0 : List (S33)) (l1 : List (S33)) (a2 : Int) : Option (Bool) := (wageofficelaw04_head.f k).bind fun t424 => ((wageofficelaw04_short.f k (([l0, l1] : List (List (S33))))).bind fun t428 => (if t428 = true then (if t424 = true then ((span_Valid.f k l0).bind fun t429 => ((wageofficeref04_Valid.f k l0).bind fun t430 => (if (t429 == t430) = true then ((span_Normal.f k l0).bind fun t431 => ((wageofficeref04_Normal.f k l0).bind fun t434 => ((wageofficeref04_Same.f k t431 t434).bind fun t437 => (if t437 = true then ((span_Union.f k l0 l1).bind fun t438 => ((wageofficeref04_Union.f k l0 l1).bind fun t441 => ((wageofficeref04_Same.f k t438 t441).bind fun t444 => (if t444 = true then ((span_Meet.f k l0 l1).bind fun t445 => ((wageofficeref04_Meet.f k l0 l1).bind fun t448 => ((wageofficeref04_Same.f k t445 t448).bind fun t451 => (if t451 = true then ((span_Minus.f k l0 l1).bind fun t452 => ((wageofficeref04_Minus.f k l0 l1).bind fun t455 => ((wageofficeref04_Same.f k t452 t455).bind fun t458 => (if t458 = true then ((span_Has.f l0 a2).bind fun t459 => ((wageofficeref04_Has.f k l0 a2).bind fun t460 => (if (t459 == t460) = true then ((span_Size.f k l0).bind fun t461 => ((wageofficeref04_Size.f k l0).bind fun t462 => (some (t461 == t462)))) else (none)))) else (none))))) else (none))))) else (none))))) else (none))))) else (none)))) else (none)) else (some t424)))
theorem wageofficelaw04_SpanMatchesReference.mono : ∀ a0 a1 a2 k, LeO (wageofficelaw04_SpanMatchesReference.f k a0 a1 a2) (wageofficelaw04_SpanMatchesReference.f (k + 1) a0 a1 a2) := by
  intro a0 a1 a2 k
  unfold wageofficelaw04_SpanMatchesReference.f
  repeat' first
      | (with_reducible exact span_Meet.mono _ _ _)
      | (with_reducible exact span_Minus.mono _ _ _)
      | (with_reducible exact span_Normal.mono _ _)
      | (with_reducible exact span_Size.mono _ _)
      | (with_reducible exact span_Union.mono _ _ _)
      | (with_reducible exact span_Valid.mono _ _)
      | (with_reducible exact wageofficelaw04_head.mono _)
      | (with_reducible exact wageofficelaw04_short.mono _ _)
      | (with_reducible exact wageofficeref04_Has.mono _ _ _)
      | (with_reducible exact wageofficeref04_Meet.mono _ _ _)
      | (with_reducible exact wageofficeref04_Minus.mono _ _ _)
      | (with_reducible exact wageofficeref04_Normal.mono _ _)
      | (with_reducible exact wageofficeref04_Same.mono _ _ _)
      | (with_reducible exact wageofficeref04_Size.mono _ _)
      | (with_reducible exact wageofficeref04_Union.mono _ _ _)
      | (with_reducible exact wageofficeref04_Valid.mono _ _)
      | (with_reducible exact LeO.refl _)
      | (with_reducible exact LeO.none _)
      | (with_reducible refine LeO.ite ?_ ?_)
      | (with_reducible refine LeO.bind ?_ (fun _ => ?_))
      | exact span_Meet.mono _ _ _
      | exact span_Minus.mono _ _ _
      | exact span_Normal.mono _ _
      | exact span_Size.mono _ _
      | exact span_Union.mono _ _ _
      | exact span_Valid.mono _ _
      | exact wageofficelaw04_head.mono _
      | exact wageofficelaw04_short.mono _ _
      | exact wageofficeref04_Has.mono _ _ _
      | exact wageofficeref04_Meet.mono _ _ _
      | exact wageofficeref04_Minus.mono _ _ _
      | exact wageofficeref04_Normal.mono _ _
      | exact wageofficeref04_Same.mono _ _ _
      | exact wageofficeref04_Size.mono _ _
      | exact wageofficeref04_Union.mono _ _ _
      | exact wageofficeref04_Valid.mono _ _
      | exact LeO.none _
      | refine LeO.ite ?_ ?_
      | refine LeO.bind ?_ (fun _ => ?_)
set_option maxHeartbeats 8000000 in
set_option maxRecDepth 100000 in
theorem wageofficelaw04_SpanMatchesReference.calls (k : Nat) (P0_ : Nat → Prop) (A0 : Option Addr) (c0 : Nat) (l0 : List (S33)) (P1_ : Nat → Prop) (A1 : Option Addr) (c1 : Nat) (l1 : List (S33)) (a2 : Int) (r : Bool) (w : World) (hs0 : Kd.V k33 33 w w.heap.size (fun k_ => P0_ k_) (.slice A0 l0.length c0) l0) (hs1 : Kd.V k33 33 w w.heap.size (fun k_ => P1_ k_) (.slice A1 l1.length c1) l1) (h : wageofficelaw04_SpanMatchesReference.f k l0 l1 a2 = some r) :
    Calls Try.prog 3 #[.slice A0 l0.length c0, .slice A1 l1.length c1, .int .i64 a2] w fun e w' => e = .returned (.bool r) ∧ Below w.heap.size w w' := by
  have HO0 := Az (show Kd.V k33 33 w w.heap.size (fun k_ => ((P0_ k_ ∨ P1_ k_) ∨ w.heap.size ≤ k_)) (.slice A0 l0.length c0) l0 from Kd.V_mono hs0 (fun k_ hk => .inl (.inl hk)))
  have HO1 := Az (show Kd.V k33 33 w w.heap.size (fun k_ => ((P0_ k_ ∨ P1_ k_) ∨ w.heap.size ≤ k_)) (.slice A1 l1.length c1) l1 from Kd.V_mono hs1 (fun k_ hk => .inl (.inr hk)))
  have HB := Az (Below.refl w.heap.size w)
  have H : ((wageofficelaw04_head.f k).bind fun t424 => ((wageofficelaw04_short.f k (([l0, l1] : List (List (S33))))).bind fun t428 => (if t428 = true then (if t424 = true then ((span_Valid.f k l0).bind fun t429 => ((wageofficeref04_Valid.f k l0).bind fun t430 => (if (t429 == t430) = true then ((span_Normal.f k l0).bind fun t431 => ((wageofficeref04_Normal.f k l0).bind fun t434 => ((wageofficeref04_Same.f k t431 t434).bind fun t437 => (if t437 = true then ((span_Union.f k l0 l1).bind fun t438 => ((wageofficeref04_Union.f k l0 l1).bind fun t441 => ((wageofficeref04_Same.f k t438 t441).bind fun t444 => (if t444 = true then ((span_Meet.f k l0 l1).bind fun t445 => ((wageofficeref04_Meet.f k l0 l1).bind fun t448 => ((wageofficeref04_Same.f k t445 t448).bind fun t451 => (if t451 = true then ((span_Minus.f k l0 l1).bind fun t452 => ((wageofficeref04_Minus.f k l0 l1).bind fun t455 => ((wageofficeref04_Same.f k t452 t455).bind fun t458 => (if t458 = true then ((span_Has.f l0 a2).bind fun t459 => ((wageofficeref04_Has.f k l0 a2).bind fun t460 => (if (t459 == t460) = true then ((span_Size.f k l0).bind fun t461 => ((wageofficeref04_Size.f k l0).bind fun t462 => (some (t461 == t462)))) else (none)))) else (none))))) else (none))))) else (none))))) else (none))))) else (none)))) else (none)) else (some t424)))) = some r := h
  clear h
  replace H := Option.bind_eq_some_iff.mp H
  obtain ⟨t424, A40, H⟩ := H
  replace H : ((wageofficelaw04_short.f k (([l0, l1] : List (List (S33))))).bind fun t428 => (if t428 = true then (if t424 = true then ((span_Valid.f k l0).bind fun t429 => ((wageofficeref04_Valid.f k l0).bind fun t430 => (if (t429 == t430) = true then ((span_Normal.f k l0).bind fun t431 => ((wageofficeref04_Normal.f k l0).bind fun t434 => ((wageofficeref04_Same.f k t431 t434).bind fun t437 => (if t437 = true then ((span_Union.f k l0 l1).bind fun t438 => ((wageofficeref04_Union.f k l0 l1).bind fun t441 => ((wageofficeref04_Same.f k t438 t441).bind fun t444 => (if t444 = true then ((span_Meet.f k l0 l1).bind fun t445 => ((wageofficeref04_Meet.f k l0 l1).bind fun t448 => ((wageofficeref04_Same.f k t445 t448).bind fun t451 => (if t451 = true then ((span_Minus.f k l0 l1).bind fun t452 => ((wageofficeref04_Minus.f k l0 l1).bind fun t455 => ((wageofficeref04_Same.f k t452 t455).bind fun t458 => (if t458 = true then ((span_Has.f l0 a2).bind fun t459 => ((wageofficeref04_Has.f k l0 a2).bind fun t460 => (if (t459 == t460) = true then ((span_Size.f k l0).bind fun t461 => ((wageofficeref04_Size.f k l0).bind fun t462 => (some (t461 == t462)))) else (none)))) else (none))))) else (none))))) else (none))))) else (none))))) else (none)))) else (none)) else (some t424))) = some r := H
  have A4 := Az A40
  clear A40
  obtain ⟨y425, hy425⟩ : ∃ y_ : List (List (S33)), y_ = (([l0, l1] : List (List (S33)))) := ⟨_, rfl⟩
  replace H : ((wageofficelaw04_short.f k y425).bind fun t428 => (if t428 = true then (if t424 = true then ((span_Valid.f k l0).bind fun t429 => ((wageofficeref04_Valid.f k l0).bind fun t430 => (if (t429 == t430) = true then ((span_Normal.f k l0).bind fun t431 => ((wageofficeref04_Normal.f k l0).bind fun t434 => ((wageofficeref04_Same.f k t431 t434).bind fun t437 => (if t437 = true then ((span_Union.f k l0 l1).bind fun t438 => ((wageofficeref04_Union.f k l0 l1).bind fun t441 => ((wageofficeref04_Same.f k t438 t441).bind fun t444 => (if t444 = true then ((span_Meet.f k l0 l1).bind fun t445 => ((wageofficeref04_Meet.f k l0 l1).bind fun t448 => ((wageofficeref04_Same.f k t445 t448).bind fun t451 => (if t451 = true then ((span_Minus.f k l0 l1).bind fun t452 => ((wageofficeref04_Minus.f k l0 l1).bind fun t455 => ((wageofficeref04_Same.f k t452 t455).bind fun t458 => (if t458 = true then ((span_Has.f l0 a2).bind fun t459 => ((wageofficeref04_Has.f k l0 a2).bind fun t460 => (if (t459 == t460) = true then ((span_Size.f k l0).bind fun t461 => ((wageofficeref04_Size.f k l0).bind fun t462 => (some (t461 == t462)))) else (none)))) else (none))))) else (none))))) else (none))))) else (none))))) else (none)))) else (none)) else (some t424))) = some r := by first | (rw [hy425]; with_reducible exact H) | (have H2_ := (Option.bind_some _ _).symm.trans H; rw [hy425]; with_reducible exact H2_) | (have H2_ := (Option.bind_some _ _).symm.trans H; with_reducible exact H2_) | with_reducible exact H | (rw [hy425]; exact H) | exact H
  have Ny425 := Az hy425
  clear hy425
  replace H := Option.bind_eq_some_iff.mp H
  obtain ⟨t428, A50, H⟩ := H
  replace H : (if t428 = true then (if t424 = true then ((span_Valid.f k l0).bind fun t429 => ((wageofficeref04_Valid.f k l0).bind fun t430 => (if (t429 == t430) = true then ((span_Normal.f k l0).bind fun t431 => ((wageofficeref04_Normal.f k l0).bind fun t434 => ((wageofficeref04_Same.f k t431 t434).bind fun t437 => (if t437 = true then ((span_Union.f k l0 l1).bind fun t438 => ((wageofficeref04_Union.f k l0 l1).bind fun t441 => ((wageofficeref04_Same.f k t438 t441).bind fun t444 => (if t444 = true then ((span_Meet.f k l0 l1).bind fun t445 => ((wageofficeref04_Meet.f k l0 l1).bind fun t448 => ((wageofficeref04_Same.f k t445 t448).bind fun t451 => (if t451 = true then ((span_Minus.f k l0 l1).bind fun t452 => ((wageofficeref04_Minus.f k l0 l1).bind fun t455 => ((wageofficeref04_Same.f k t452 t455).bind fun t458 => (if t458 = true then ((span_Has.f l0 a2).bind fun t459 => ((wageofficeref04_Has.f k l0 a2).bind fun t460 => (if (t459 == t460) = true then ((span_Size.f k l0).bind fun t461 => ((wageofficeref04_Size.f k l0).bind fun t462 => (some (t461 == t462)))) else (none)))) else (none))))) else (none))))) else (none))))) else (none))))) else (none)))) else (none)) else (some t424)) = some r := H
  have A5 := Az A50
  clear A50
  by_cases c6 : t428 = true
  · subst c6
    have H1 : (if t424 = true then ((span_Valid.f k l0).bind fun t429 => ((wageofficeref04_Valid.f k l0).bind fun t430 => (if (t429 == t430) = true then ((span_Normal.f k l0).bind fun t431 => ((wageofficeref04_Normal.f k l0).bind fun t434 => ((wageofficeref04_Same.f k t431 t434).bind fun t437 => (if t437 = true then ((span_Union.f k l0 l1).bind fun t438 => ((wageofficeref04_Union.f k l0 l1).bind fun t441 => ((wageofficeref04_Same.f k t438 t441).bind fun t444 => (if t444 = true then ((span_Meet.f k l0 l1).bind fun t445 => ((wageofficeref04_Meet.f k l0 l1).bind fun t448 => ((wageofficeref04_Same.f k t445 t448).bind fun t451 => (if t451 = true then ((span_Minus.f k l0 l1).bind fun t452 => ((wageofficeref04_Minus.f k l0 l1).bind fun t455 => ((wageofficeref04_Same.f k t452 t455).bind fun t458 => (if t458 = true then ((span_Has.f l0 a2).bind fun t459 => ((wageofficeref04_Has.f k l0 a2).bind fun t460 => (if (t459 == t460) = true then ((span_Size.f k l0).bind fun t461 => ((wageofficeref04_Size.f k l0).bind fun t462 => (some (t461 == t462)))) else (none)))) else (none))))) else (none))))) else (none))))) else (none))))) else (none)))) else (none)) = some r := by rw [if_pos rfl] at H; exact H
    clear H
    have H := H1
    clear H1
    by_cases c7 : t424 = true
    · subst c7
      have H1 : ((span_Valid.f k l0).bind fun t429 => ((wageofficeref04_Valid.f k l0).bind fun t430 => (if (t429 == t430) = true then ((span_Normal.f k l0).bind fun t431 => ((wageofficeref04_Normal.f k l0).bind fun t434 => ((wageofficeref04_Same.f k t431 t434).bind fun t437 => (if t437 = true then ((span_Union.f k l0 l1).bind fun t438 => ((wageofficeref04_Union.f k l0 l1).bind fun t441 => ((wageofficeref04_Same.f k t438 t441).bind fun t444 => (if t444 = true then ((span_Meet.f k l0 l1).bind fun t445 => ((wageofficeref04_Meet.f k l0 l1).bind fun t448 => ((wageofficeref04_Same.f k t445 t448).bind fun t451 => (if t451 = true then ((span_Minus.f k l0 l1).bind fun t452 => ((wageofficeref04_Minus.f k l0 l1).bind fun t455 => ((wageofficeref04_Same.f k t452 t455).bind fun t458 => (if t458 = true then ((span_Has.f l0 a2).bind fun t459 => ((wageofficeref04_Has.f k l0 a2).bind fun t460 => (if (t459 == t460) = true then ((span_Size.f k l0).bind fun t461 => ((wageofficeref04_Size.f k l0).bind fun t462 => (some (t461 == t462)))) else (none)))) else (none))))) else (none))))) else (none))))) else (none))))) else (none)))) = some r := by rw [if_pos rfl] at H; exact H
      clear H
      have H := H1
      clear H1
      replace H := Option.bind_eq_some_iff.mp H
      obtain ⟨t429, A80, H⟩ := H
      replace H : ((wageofficeref04_Valid.f k l0).bind fun t430 => (if (t429 == t430) = true then ((span_Normal.f k l0).bind fun t431 => ((wageofficeref04_Normal.f k l0).bind fun t434 => ((wageofficeref04_Same.f k t431 t434).bind fun t437 => (if t437 = true then ((span_Union.f k l0 l1).bind fun t438 => ((wageofficeref04_Union.f k l0 l1).bind fun t441 => ((wageofficeref04_Same.f k t438 t441).bind fun t444 => (if t444 = true then ((span_Meet.f k l0 l1).bind fun t445 => ((wageofficeref04_Meet.f k l0 l1).bind fun t448 => ((wageofficeref04_Same.f k t445 t448).bind fun t451 => (if t451 = true then ((span_Minus.f k l0 l1).bind fun t452 => ((wageofficeref04_Minus.f k l0 l1).bind fun t455 => ((wageofficeref04_Same.f k t452 t455).bind fun t458 => (if t458 = true then ((span_Has.f l0 a2).bind fun t459 => ((wageofficeref04_Has.f k l0 a2).bind fun t460 => (if (t459 == t460) = true then ((span_Size.f k l0).bind fun t461 => ((wageofficeref04_Size.f k l0).bind fun t462 => (some (t461 == t462)))) else (none)))) else (none))))) else (none))))) else (none))))) else (none))))) else (none))) = some r := H
      have A8 := Az A80
      clear A80
      replace H := Option.bind_eq_some_iff.mp H
      obtain ⟨t430, A90, H⟩ := H
      replace H : (if (t429 == t430) = true then ((span_Normal.f k l0).bind fun t431 => ((wageofficeref04_Normal.f k l0).bind fun t434 => ((wageofficeref04_Same.f k t431 t434).bind fun t437 => (if t437 = true then ((span_Union.f k l0 l1).bind fun t438 => ((wageofficeref04_Union.f k l0 l1).bind fun t441 => ((wageofficeref04_Same.f k t438 t441).bind fun t444 => (if t444 = true then ((span_Meet.f k l0 l1).bind fun t445 => ((wageofficeref04_Meet.f k l0 l1).bind fun t448 => ((wageofficeref04_Same.f k t445 t448).bind fun t451 => (if t451 = true then ((span_Minus.f k l0 l1).bind fun t452 => ((wageofficeref04_Minus.f k l0 l1).bind fun t455 => ((wageofficeref04_Same.f k t452 t455).bind fun t458 => (if t458 = true then ((span_Has.f l0 a2).bind fun t459 => ((wageofficeref04_Has.f k l0 a2).bind fun t460 => (if (t459 == t460) = true then ((span_Size.f k l0).bind fun t461 => ((wageofficeref04_Size.f k l0).bind fun t462 => (some (t461 == t462)))) else (none)))) else (none))))) else (none))))) else (none))))) else (none))))) else (none)) = some r := H
      have A9 := Az A90
      clear A90
      by_cases c10 : (t429 == t430) = true
      · rw [if_pos c10] at H
        have c10b0 : (t429 == t430) = true := c10
        (try (have c10b1 : decide (t429 = t430) = true := by simpa using c10))
        (try (have c10b2 : (t429 == t430) = true := by simpa using c10))
        clear c10
        replace H := Option.bind_eq_some_iff.mp H
        obtain ⟨t431, A110, H⟩ := H
        replace H : ((wageofficeref04_Normal.f k l0).bind fun t434 => ((wageofficeref04_Same.f k t431 t434).bind fun t437 => (if t437 = true then ((span_Union.f k l0 l1).bind fun t438 => ((wageofficeref04_Union.f k l0 l1).bind fun t441 => ((wageofficeref04_Same.f k t438 t441).bind fun t444 => (if t444 = true then ((span_Meet.f k l0 l1).bind fun t445 => ((wageofficeref04_Meet.f k l0 l1).bind fun t448 => ((wageofficeref04_Same.f k t445 t448).bind fun t451 => (if t451 = true then ((span_Minus.f k l0 l1).bind fun t452 => ((wageofficeref04_Minus.f k l0 l1).bind fun t455 => ((wageofficeref04_Same.f k t452 t455).bind fun t458 => (if t458 = true then ((span_Has.f l0 a2).bind fun t459 => ((wageofficeref04_Has.f k l0 a2).bind fun t460 => (if (t459 == t460) = true then ((span_Size.f k l0).bind fun t461 => ((wageofficeref04_Size.f k l0).bind fun t462 => (some (t461 == t462)))) else (none)))) else (none))))) else (none))))) else (none))))) else (none)))) = some r := H
        have A11 := Az A110
        clear A110
        replace H := Option.bind_eq_some_iff.mp H
        obtain ⟨t434, A120, H⟩ := H
        replace H : ((wageofficeref04_Same.f k t431 t434).bind fun t437 => (if t437 = true then ((span_Union.f k l0 l1).bind fun t438 => ((wageofficeref04_Union.f k l0 l1).bind fun t441 => ((wageofficeref04_Same.f k t438 t441).bind fun t444 => (if t444 = true then ((span_Meet.f k l0 l1).bind fun t445 => ((wageofficeref04_Meet.f k l0 l1).bind fun t448 => ((wageofficeref04_Same.f k t445 t448).bind fun t451 => (if t451 = true then ((span_Minus.f k l0 l1).bind fun t452 => ((wageofficeref04_Minus.f k l0 l1).bind fun t455 => ((wageofficeref04_Same.f k t452 t455).bind fun t458 => (if t458 = true then ((span_Has.f l0 a2).bind fun t459 => ((wageofficeref04_Has.f k l0 a2).bind fun t460 => (if (t459 == t460) = true then ((span_Size.f k l0).bind fun t461 => ((wageofficeref04_Size.f k l0).bind fun t462 => (some (t461 == t462)))) else (none)))) else (none))))) else (none))))) else (none))))) else (none))) = some r := H
        have A12 := Az A120
        clear A120
        replace H := Option.bind_eq_some_iff.mp H
        obtain ⟨t437, A130, H⟩ := H
        replace H : (if t437 = true then ((span_Union.f k l0 l1).bind fun t438 => ((wageofficeref04_Union.f k l0 l1).bind fun t441 => ((wageofficeref04_Same.f k t438 t441).bind fun t444 => (if t444 = true then ((span_Meet.f k l0 l1).bind fun t445 => ((wageofficeref04_Meet.f k l0 l1).bind fun t448 => ((wageofficeref04_Same.f k t445 t448).bind fun t451 => (if t451 = true then ((span_Minus.f k l0 l1).bind fun t452 => ((wageofficeref04_Minus.f k l0 l1).bind fun t455 => ((wageofficeref04_Same.f k t452 t455).bind fun t458 => (if t458 = true then ((span_Has.f l0 a2).bind fun t459 => ((wageofficeref04_Has.f k l0 a2).bind fun t460 => (if (t459 == t460) = true then ((span_Size.f k l0).bind fun t461 => ((wageofficeref04_Size.f k l0).bind fun t462 => (some (t461 == t462)))) else (none)))) else (none))))) else (none))))) else (none))))) else (none)) = some r := H
        have A13 := Az A130
        clear A130
        by_cases c14 : t437 = true
        · subst c14
          have H1 : ((span_Union.f k l0 l1).bind fun t438 => ((wageofficeref04_Union.f k l0 l1).bind fun t441 => ((wageofficeref04_Same.f k t438 t441).bind fun t444 => (if t444 = true then ((span_Meet.f k l0 l1).bind fun t445 => ((wageofficeref04_Meet.f k l0 l1).bind fun t448 => ((wageofficeref04_Same.f k t445 t448).bind fun t451 => (if t451 = true then ((span_Minus.f k l0 l1).bind fun t452 => ((wageofficeref04_Minus.f k l0 l1).bind fun t455 => ((wageofficeref04_Same.f k t452 t455).bind fun t458 => (if t458 = true then ((span_Has.f l0 a2).bind fun t459 => ((wageofficeref04_Has.f k l0 a2).bind fun t460 => (if (t459 == t460) = true then ((span_Size.f k l0).bind fun t461 => ((wageofficeref04_Size.f k l0).bind fun t462 => (some (t461 == t462)))) else (none)))) else (none))))) else (none))))) else (none))))) = some r := by rw [if_pos rfl] at H; exact H
          clear H
          have H := H1
          clear H1
          replace H := Option.bind_eq_some_iff.mp H
          obtain ⟨t438, A150, H⟩ := H
          replace H : ((wageofficeref04_Union.f k l0 l1).bind fun t441 => ((wageofficeref04_Same.f k t438 t441).bind fun t444 => (if t444 = true then ((span_Meet.f k l0 l1).bind fun t445 => ((wageofficeref04_Meet.f k l0 l1).bind fun t448 => ((wageofficeref04_Same.f k t445 t448).bind fun t451 => (if t451 = true then ((span_Minus.f k l0 l1).bind fun t452 => ((wageofficeref04_Minus.f k l0 l1).bind fun t455 => ((wageofficeref04_Same.f k t452 t455).bind fun t458 => (if t458 = true then ((span_Has.f l0 a2).bind fun t459 => ((wageofficeref04_Has.f k l0 a2).bind fun t460 => (if (t459 == t460) = true then ((span_Size.f k l0).bind fun t461 => ((wageofficeref04_Size.f k l0).bind fun t462 => (some (t461 == t462)))) else (none)))) else (none))))) else (none))))) else (none)))) = some r := H
          have A15 := Az A150
          clear A150
          replace H := Option.bind_eq_some_iff.mp H
          obtain ⟨t441, A160, H⟩ := H
          replace H : ((wageofficeref04_Same.f k t438 t441).bind fun t444 => (if t444 = true then ((span_Meet.f k l0 l1).bind fun t445 => ((wageofficeref04_Meet.f k l0 l1).bind fun t448 => ((wageofficeref04_Same.f k t445 t448).bind fun t451 => (if t451 = true then ((span_Minus.f k l0 l1).bind fun t452 => ((wageofficeref04_Minus.f k l0 l1).bind fun t455 => ((wageofficeref04_Same.f k t452 t455).bind fun t458 => (if t458 = true then ((span_Has.f l0 a2).bind fun t459 => ((wageofficeref04_Has.f k l0 a2).bind fun t460 => (if (t459 == t460) = true then ((span_Size.f k l0).bind fun t461 => ((wageofficeref04_Size.f k l0).bind fun t462 => (some (t461 == t462)))) else (none)))) else (none))))) else (none))))) else (none))) = some r := H
          have A16 := Az A160
          clear A160
          replace H := Option.bind_eq_some_iff.mp H
          obtain ⟨t444, A170, H⟩ := H
          replace H : (if t444 = true then ((span_Meet.f k l0 l1).bind fun t445 => ((wageofficeref04_Meet.f k l0 l1).bind fun t448 => ((wageofficeref04_Same.f k t445 t448).bind fun t451 => (if t451 = true then ((span_Minus.f k l0 l1).bind fun t452 => ((wageofficeref04_Minus.f k l0 l1).bind fun t455 => ((wageofficeref04_Same.f k t452 t455).bind fun t458 => (if t458 = true then ((span_Has.f l0 a2).bind fun t459 => ((wageofficeref04_Has.f k l0 a2).bind fun t460 => (if (t459 == t460) = true then ((span_Size.f k l0).bind fun t461 => ((wageofficeref04_Size.f k l0).bind fun t462 => (some (t461 == t462)))) else (none)))) else (none))))) else (none))))) else (none)) = some r := H
          have A17 := Az A170
          clear A170
          by_cases c18 : t444 = true
          · subst c18
            have H1 : ((span_Meet.f k l0 l1).bind fun t445 => ((wageofficeref04_Meet.f k l0 l1).bind fun t448 => ((wageofficeref04_Same.f k t445 t448).bind fun t451 => (if t451 = true then ((span_Minus.f k l0 l1).bind fun t452 => ((wageofficeref04_Minus.f k l0 l1).bind fun t455 => ((wageofficeref04_Same.f k t452 t455).bind fun t458 => (if t458 = true then ((span_Has.f l0 a2).bind fun t459 => ((wageofficeref04_Has.f k l0 a2).bind fun t460 => (if (t459 == t460) = true then ((span_Size.f k l0).bind fun t461 => ((wageofficeref04_Size.f k l0).bind fun t462 => (some (t461 == t462)))) else (none)))) else (none))))) else (none))))) = some r := by rw [if_pos rfl] at H; exact H
            clear H
            have H := H1
            clear H1
            replace H := Option.bind_eq_some_iff.mp H
            obtain ⟨t445, A190, H⟩ := H
            replace H : ((wageofficeref04_Meet.f k l0 l1).bind fun t448 => ((wageofficeref04_Same.f k t445 t448).bind fun t451 => (if t451 = true then ((span_Minus.f k l0 l1).bind fun t452 => ((wageofficeref04_Minus.f k l0 l1).bind fun t455 => ((wageofficeref04_Same.f k t452 t455).bind fun t458 => (if t458 = true then ((span_Has.f l0 a2).bind fun t459 => ((wageofficeref04_Has.f k l0 a2).bind fun t460 => (if (t459 == t460) = true then ((span_Size.f k l0).bind fun t461 => ((wageofficeref04_Size.f k l0).bind fun t462 => (some (t461 == t462)))) else (none)))) else (none))))) else (none)))) = some r := H
            have A19 := Az A190
            clear A190
            replace H := Option.bind_eq_some_iff.mp H
            obtain ⟨t448, A200, H⟩ := H
            replace H : ((wageofficeref04_Same.f k t445 t448).bind fun t451 => (if t451 = true then ((span_Minus.f k l0 l1).bind fun t452 => ((wageofficeref04_Minus.f k l0 l1).bind fun t455 => ((wageofficeref04_Same.f k t452 t455).bind fun t458 => (if t458 = true then ((span_Has.f l0 a2).bind fun t459 => ((wageofficeref04_Has.f k l0 a2).bind fun t460 => (if (t459 == t460) = true then ((span_Size.f k l0).bind fun t461 => ((wageofficeref04_Size.f k l0).bind fun t462 => (some (t461 == t462)))) else (none)))) else (none))))) else (none))) = some r := H
            have A20 := Az A200
            clear A200
            replace H := Option.bind_eq_some_iff.mp H
            obtain ⟨t451, A210, H⟩ := H
            replace H : (if t451 = true then ((span_Minus.f k l0 l1).bind fun t452 => ((wageofficeref04_Minus.f k l0 l1).bind fun t455 => ((wageofficeref04_Same.f k t452 t455).bind fun t458 => (if t458 = true then ((span_Has.f l0 a2).bind fun t459 => ((wageofficeref04_Has.f k l0 a2).bind fun t460 => (if (t459 == t460) = true then ((span_Size.f k l0).bind fun t461 => ((wageofficeref04_Size.f k l0).bind fun t462 => (some (t461 == t462)))) else (none)))) else (none))))) else (none)) = some r := H
            have A21 := Az A210
            clear A210
            by_cases c22 : t451 = true
            · subst c22
              have H1 : ((span_Minus.f k l0 l1).bind fun t452 => ((wageofficeref04_Minus.f k l0 l1).bind fun t455 => ((wageofficeref04_Same.f k t452 t455).bind fun t458 => (if t458 = true then ((span_Has.f l0 a2).bind fun t459 => ((wageofficeref04_Has.f k l0 a2).bind fun t460 => (if (t459 == t460) = true then ((span_Size.f k l0).bind fun t461 => ((wageofficeref04_Size.f k l0).bind fun t462 => (some (t461 == t462)))) else (none)))) else (none))))) = some r := by rw [if_pos rfl] at H; exact H
              clear H
              have H := H1
              clear H1
              replace H := Option.bind_eq_some_iff.mp H
              obtain ⟨t452, A230, H⟩ := H
              replace H : ((wageofficeref04_Minus.f k l0 l1).bind fun t455 => ((wageofficeref04_Same.f k t452 t455).bind fun t458 => (if t458 = true then ((span_Has.f l0 a2).bind fun t459 => ((wageofficeref04_Has.f k l0 a2).bind fun t460 => (if (t459 == t460) = true then ((span_Size.f k l0).bind fun t461 => ((wageofficeref04_Size.f k l0).bind fun t462 => (some (t461 == t462)))) else (none)))) else (none)))) = some r := H
              have A23 := Az A230
              clear A230
              replace H := Option.bind_eq_some_iff.mp H
              obtain ⟨t455, A240, H⟩ := H
              replace H : ((wageofficeref04_Same.f k t452 t455).bind fun t458 => (if t458 = true then ((span_Has.f l0 a2).bind fun t459 => ((wageofficeref04_Has.f k l0 a2).bind fun t460 => (if (t459 == t460) = true then ((span_Size.f k l0).bind fun t461 => ((wageofficeref04_Size.f k l0).bind fun t462 => (some (t461 == t462)))) else (none)))) else (none))) = some r := H
              have A24 := Az A240
              clear A240
              replace H := Option.bind_eq_some_iff.mp H
              obtain ⟨t458, A250, H⟩ := H
              replace H : (if t458 = true then ((span_Has.f l0 a2).bind fun t459 => ((wageofficeref04_Has.f k l0 a2).bind fun t460 => (if (t459 == t460) = true then ((span_Size.f k l0).bind fun t461 => ((wageofficeref04_Size.f k l0).bind fun t462 => (some (t461 == t462)))) else (none)))) else (none)) = some r := H
              have A25 := Az A250
              clear A250
              by_cases c26 : t458 = true
              · subst c26
                have H1 : ((span_Has.f l0 a2).bind fun t459 => ((wageofficeref04_Has.f k l0 a2).bind fun t460 => (if (t459 == t460) = true then ((span_Size.f k l0).bind fun t461 => ((wageofficeref04_Size.f k l0).bind fun t462 => (some (t461 == t462)))) else (none)))) = some r := by rw [if_pos rfl] at H; exact H
                clear H
                have H := H1
                clear H1
                replace H := Option.bind_eq_some_iff.mp H
                obtain ⟨t459, A270, H⟩ := H
                replace H : ((wageofficeref04_Has.f k l0 a2).bind fun t460 => (if (t459 == t460) = true then ((span_Size.f k l0).bind fun t461 => ((wageofficeref04_Size.f k l0).bind fun t462 => (some (t461 == t462)))) else (none))) = some r := H
                have A27 := Az A270
                clear A270
                replace H := Option.bind_eq_some_iff.mp H
                obtain ⟨t460, A280, H⟩ := H
                replace H : (if (t459 == t460) = true then ((span_Size.f k l0).bind fun t461 => ((wageofficeref04_Size.f k l0).bind fun t462 => (some (t461 == t462)))) else (none)) = some r := H
                have A28 := Az A280
                clear A280
                by_cases c29 : (t459 == t460) = true
                · rw [if_pos c29] at H
                  have c29b0 : (t459 == t460) = true := c29
                  (try (have c29b1 : decide (t459 = t460) = true := by simpa using c29))
                  (try (have c29b2 : (t459 == t460) = true := by simpa using c29))
                  clear c29
                  replace H := Option.bind_eq_some_iff.mp H
                  obtain ⟨t461, A300, H⟩ := H
                  replace H : ((wageofficeref04_Size.f k l0).bind fun t462 => (some (t461 == t462))) = some r := H
                  have A30 := Az A300
                  clear A300
                  replace H := Option.bind_eq_some_iff.mp H
                  obtain ⟨t462, A310, H⟩ := H
                  replace H : (some (t461 == t462)) = some r := H
                  have A31 := Az A310
                  clear A310
                  obtain rfl := Option.some.inj H
                  go_enter Try.func3, Try.ntmps3
                  go_wp2_with (first | ((with_reducible refine gate_callee (f := 10) rfl ?_); refine goesL_ (some 8) rfl rfl Try.func10 (by kernel_rfl) rfl #[] rfl (by (try simp only [List.map_toArray, List.map_cons, List.map_nil]); first | done | rfl) ?_; (with_reducible refine (wageofficelaw04_head.calls k  true _ A4.out).mono ?_); rintro e w32 ⟨rfl, hb⟩; refine ⟨_, rfl, ?_⟩; have n0_ := Az (Kd.V_below (by (with_reducible repeat (first | apply Kd.V_alloc | apply Kd.V_drewN | apply Kd.V_drew)); exact HO0.out) hb); have n1_ := Az (Kd.V_below (by (with_reducible repeat (first | apply Kd.V_alloc | apply Kd.V_drewN | apply Kd.V_drew)); exact HO1.out) hb); have n2_ := Az (below_step (by repeat (with_reducible first | exact HB.out | apply bal | apply bdN | apply bd1)) hb); clear HO0; clear HO1; clear HB; have HO0 := n0_; have HO1 := n1_; have HB := n2_; clear n0_ n1_ n2_; (try clear hb); (try clear hb2); (try clear hk); (try clear hi)) | ((with_reducible refine gate_dst (N := 11) rfl ?_); refine Kd.N_lit (Kd.slice 33 k33) _ 22 ?hg (N' := 11) ?hd (xs := ([l0, l1] : List (List (S33)))) (inner := [.slice A0 l0.length c0, .slice A1 l1.length c1]) (ok := (fun k_ => ((P0_ k_ ∨ P1_ k_) ∨ w.heap.size ≤ k_))) (okp := (fun k_ => ((P0_ k_ ∨ P1_ k_) ∨ w.heap.size ≤ k_))) ?hr ?hp (fun _ hk => hk) ((show ∀ k_, w32.heap.size ≤ k_ → (fun k_ => ((P0_ k_ ∨ P1_ k_) ∨ w.heap.size ≤ k_)) k_ from fun k_ hk => (.inr (Nat.le_trans (below_size (by repeat (with_reducible first | exact HB.out | apply bal | apply bdN | apply bd1))) hk))) _ (Nat.le_refl _)) (Below.refl _ _) (Nat.le_refl _) (by simp) ?_; (case hd => rfl); (case hg => rfl); (case hr => first | (go_simp; done) | (go_simp; rfl)); (case hp => exact (Reps.one (show Kd.FK (Kd.slice 33 k33) _ _ l0 [.slice A0 l0.length c0] from (Kd.FK_slice_mk (Kd.V_reads' (Kd.V_mono (ok' := (fun k_ => ((P0_ k_ ∨ P1_ k_) ∨ w.heap.size ≤ k_))) (HO0.out) (fun k_ hk => hk))).2.1 (Kd.V_F (Kd.V_mono (ok' := (fun k_ => ((P0_ k_ ∨ P1_ k_) ∨ w.heap.size ≤ k_))) (HO0.out) (fun k_ hk => hk))))) (Reps.one (show Kd.FK (Kd.slice 33 k33) _ _ l1 [.slice A1 l1.length c1] from (Kd.FK_slice_mk (Kd.V_reads' (Kd.V_mono (ok' := (fun k_ => ((P0_ k_ ∨ P1_ k_) ∨ w.heap.size ≤ k_))) (HO1.out) (fun k_ hk => hk))).2.1 (Kd.V_F (Kd.V_mono (ok' := (fun k_ => ((P0_ k_ ∨ P1_ k_) ∨ w.heap.size ≤ k_))) (HO1.out) (fun k_ hk => hk))))) (Reps.none _ _)))); intro v426 w33 ho34 hb hg_ hnew_; clear hg_ hnew_; (first | rw [← Ny425.out] at ho34 | (simp only [Int.reduceToNat] at ho34; rw [← Ny425.out] at ho34)); have n0_ := Az (Kd.V_elder' (by (with_reducible repeat (first | apply Kd.V_alloc | apply Kd.V_drewN | apply Kd.V_drew)); exact HO0.out) (Kd.N_base ho34) hb); have n1_ := Az (Kd.V_elder' (by (with_reducible repeat (first | apply Kd.V_alloc | apply Kd.V_drewN | apply Kd.V_drew)); exact HO1.out) (Kd.N_base ho34) hb); have n2_ := Az (Kd.N_lower ho34 (below_size (by repeat (with_reducible first | exact HB.out | apply bal | apply bdN | apply bd1)))); have n3_ := Az (below_step (by repeat (with_reducible first | exact HB.out | apply bal | apply bdN | apply bd1)) hb); clear HO0; clear HO1; clear HB; have HO0 := n0_; have HO1 := n1_; have HO427 := n2_; have HB := n3_; clear n0_ n1_ n2_ n3_; clear hb ho34; obtain ⟨Ao35, co35, eo35⟩ := Kd.N_slice HO427.out; subst eo35) | ((with_reducible refine gate_callee (f := 11) rfl ?_); refine goesL_ (some 12) rfl rfl Try.func11 (by kernel_rfl) rfl #[.slice Ao35 y425.length co35] rfl (by (try simp only [List.map_toArray, List.map_cons, List.map_nil]); first | done | rfl) ?_; (with_reducible refine (wageofficelaw04_short.calls k _ _ y425 true _ ?side1 ?side2 A5.out).mono ?_); (case side1 => repeat (first | exact (Kd.N_reads' HO427.out).2.2 | (with_reducible refine Kd.C_alloc ?_ _) | (with_reducible refine Kd.C_drewN ?_ _) | (with_reducible refine Kd.C_drew ?_))); (case side2 => exact (Kd.N_reads' HO427.out).2.1); rintro e w' ⟨rfl, ⟨nd, rfl⟩⟩; refine ⟨_, rfl, ?_⟩) | (go_at_call 12; (with_reducible refine (span_Valid.calls k _ _ l0 t429 _ ?side1 ?side2 A8.out).mono ?_); (case side1 => repeat (first | exact (Kd.V_reads' HO0.out).2.2 | (with_reducible refine Kd.C_alloc ?_ _) | (with_reducible refine Kd.C_drewN ?_ _) | (with_reducible refine Kd.C_drew ?_))); (case side2 => exact (Kd.V_reads' HO0.out).2.1); rintro e w36 ⟨rfl, hb⟩; have n0_ := Az (Kd.V_below (by (with_reducible repeat (first | apply Kd.V_alloc | apply Kd.V_drewN | apply Kd.V_drew)); exact HO0.out) hb); have n1_ := Az (Kd.V_below (by (with_reducible repeat (first | apply Kd.V_alloc | apply Kd.V_drewN | apply Kd.V_drew)); exact HO1.out) hb); have n2_ := Az (Kd.N_below (by (with_reducible repeat (first | apply Kd.N_alloc | apply Kd.N_drewN | apply Kd.N_drew)); exact HO427.out) hb); have n3_ := Az (below_step (by repeat (with_reducible first | exact HB.out | apply bal | apply bdN | apply bd1)) hb); clear HO0; clear HO1; clear HO427; clear HB; have HO0 := n0_; have HO1 := n1_; have HO427 := n2_; have HB := n3_; clear n0_ n1_ n2_ n3_; (try clear hb); (try clear hb2); (try clear hk); (try clear hi)) | (go_at_call 13; (with_reducible refine (wageofficeref04_Valid.calls k _ _ l0 t430 _ ?side1 ?side2 A9.out).mono ?_); (case side1 => repeat (first | exact (Kd.V_reads' HO0.out).2.2 | (with_reducible refine Kd.C_alloc ?_ _) | (with_reducible refine Kd.C_drewN ?_ _) | (with_reducible refine Kd.C_drew ?_))); (case side2 => exact (Kd.V_reads' HO0.out).2.1); rintro e w37 ⟨rfl, hb⟩; have n0_ := Az (Kd.V_below (by (with_reducible repeat (first | apply Kd.V_alloc | apply Kd.V_drewN | apply Kd.V_drew)); exact HO0.out) hb); have n1_ := Az (Kd.V_below (by (with_reducible repeat (first | apply Kd.V_alloc | apply Kd.V_drewN | apply Kd.V_drew)); exact HO1.out) hb); have n2_ := Az (Kd.N_below (by (with_reducible repeat (first | apply Kd.N_alloc | apply Kd.N_drewN | apply Kd.N_drew)); exact HO427.out) hb); have n3_ := Az (below_step (by repeat (with_reducible first | exact HB.out | apply bal | apply bdN | apply bd1)) hb); clear HO0; clear HO1; clear HO427; clear HB; have HO0 := n0_; have HO1 := n1_; have HO427 := n2_; have HB := n3_; clear n0_ n1_ n2_ n3_; (try clear hb); (try clear hb2); (try clear hk); (try clear hi)) | (go_at_call 15; (with_reducible refine (span_Normal.calls k _ _ l0 t431 _ ?side1 ?side2 A11.out).mono ?_); (case side1 => repeat (first | exact (Kd.V_reads' HO0.out).2.2 | (with_reducible refine Kd.C_alloc ?_ _) | (with_reducible refine Kd.C_drewN ?_ _) | (with_reducible refine Kd.C_drew ?_))); (case side2 => exact (Kd.V_reads' HO0.out).2.1); rintro e w38 ⟨v432, rfl, ho0, hb⟩; have n0_ := Az (Kd.V_elder' (by (with_reducible repeat (first | apply Kd.V_alloc | apply Kd.V_drewN | apply Kd.V_drew)); exact HO0.out) (Kd.R_base ho0) hb); have n1_ := Az (Kd.V_elder' (by (with_reducible repeat (first | apply Kd.V_alloc | apply Kd.V_drewN | apply Kd.V_drew)); exact HO1.out) (Kd.R_base ho0) hb); have n2_ := Az (Kd.N_elder' (by (with_reducible repeat (first | apply Kd.N_alloc | apply Kd.N_drewN | apply Kd.N_drew)); exact HO427.out) (Kd.R_base ho0) hb); have n3_ := Az (Kd.R_lower (Kd.R_newM (M := fun k_ => (w.heap.size ≤ k_)) ho0 (below_size (by repeat (with_reducible first | exact HB.out | apply bal | apply bdN | apply bd1))) (fun k_ h_ => h_)) (below_size (by repeat (with_reducible first | exact HB.out | apply bal | apply bdN | apply bd1)))); have n4_ := Az (below_step (by repeat (with_reducible first | exact HB.out | apply bal | apply bdN | apply bd1)) hb); clear HO0; clear HO1; clear HO427; clear HB; have HO0 := n0_; have HO1 := n1_; have HO427 := n2_; have HO433 := n3_; have HB := n4_; clear n0_ n1_ n2_ n3_ n4_; (try clear hb); (try clear hb2); (try clear hk); (try clear hi); (try clear ho0)) | (go_at_call 16; (with_reducible refine (wageofficeref04_Normal.calls k _ _ l0 t434 _ ?side1 ?side2 A12.out).mono ?_); (case side1 => repeat (first | exact (Kd.V_reads' HO0.out).2.2 | (with_reducible refine Kd.C_alloc ?_ _) | (with_reducible refine Kd.C_drewN ?_ _) | (with_reducible refine Kd.C_drew ?_))); (case side2 => exact (Kd.V_reads' HO0.out).2.1); rintro e w39 ⟨v435, rfl, ho0, hb⟩; have n0_ := Az (Kd.V_elder' (by (with_reducible repeat (first | apply Kd.V_alloc | apply Kd.V_drewN | apply Kd.V_drew)); exact HO0.out) (Kd.R_base ho0) hb); have n1_ := Az (Kd.V_elder' (by (with_reducible repeat (first | apply Kd.V_alloc | apply Kd.V_drewN | apply Kd.V_drew)); exact HO1.out) (Kd.R_base ho0) hb); have n2_ := Az (Kd.N_elder' (by (with_reducible repeat (first | apply Kd.N_alloc | apply Kd.N_drewN | apply Kd.N_drew)); exact HO427.out) (Kd.R_base ho0) hb); have n3_ := Az (Kd.R_elder' (by (with_reducible repeat (first | apply Kd.R_alloc | apply Kd.R_drewN | apply Kd.R_drew)); exact HO433.out) (Kd.R_base ho0) hb); have n4_ := Az (Kd.R_lower (Kd.R_new' (Kd.R_newM (M := fun k_ => (w.heap.size ≤ k_)) ho0 (below_size (by repeat (with_reducible first | exact HB.out | apply bal | apply bdN | apply bd1))) (fun k_ h_ => h_)) (Kd.R_lt (by (with_reducible repeat (first | apply Kd.R_alloc | apply Kd.R_drewN | apply Kd.R_drew)); exact HO433.out))) (below_size (by repeat (with_reducible first | exact HB.out | apply bal | apply bdN | apply bd1)))); have n5_ := Az (below_step (by repeat (with_reducible first | exact HB.out | apply bal | apply bdN | apply bd1)) hb); clear HO0; clear HO1; clear HO427; clear HO433; clear HB; have HO0 := n0_; have HO1 := n1_; have HO427 := n2_; have HO433 := n3_; have HO436 := n4_; have HB := n5_; clear n0_ n1_ n2_ n3_ n4_ n5_; (try clear hb); (try clear hb2); (try clear hk); (try clear hi); (try clear ho0); obtain ⟨Ao40, co40, eo40⟩ := Kd.R_slice HO433.out; subst eo40; obtain ⟨Ao41, co41, eo41⟩ := Kd.R_slice HO436.out; subst eo41) | (go_at_call 14; (with_reducible refine (wageofficeref04_Same.calls k _ _ t431 _ _ t434 true _ ?side1 ?side2 ?side3 ?side4 A13.out).mono ?_); (case side1 => repeat (first | exact (Kd.R_reads' HO433.out).2.2 | (with_reducible refine Kd.C_alloc ?_ _) | (with_reducible refine Kd.C_drewN ?_ _) | (with_reducible refine Kd.C_drew ?_))); (case side2 => exact (Kd.R_reads' HO433.out).2.1); (case side3 => repeat (first | exact (Kd.R_reads' HO436.out).2.2 | (with_reducible refine Kd.C_alloc ?_ _) | (with_reducible refine Kd.C_drewN ?_ _) | (with_reducible refine Kd.C_drew ?_))); (case side4 => exact (Kd.R_reads' HO436.out).2.1); rintro e w' ⟨rfl, ⟨nd, rfl⟩⟩) | (go_at_call 17; (with_reducible refine (span_Union.calls k (fun k_ => (((((P0_ k_ ∨ P1_ k_) ∨ w.heap.size ≤ k_) ∧ some k_ ≠ (.slice Ao35 y425.length co35 : Value).ownBlock) ∧ some k_ ≠ (.slice Ao40 t431.length co40 : Value).ownBlock) ∧ some k_ ≠ (.slice Ao41 t434.length co41 : Value).ownBlock)) _ _ l0 (fun k_ => (((((P0_ k_ ∨ P1_ k_) ∨ w.heap.size ≤ k_) ∧ some k_ ≠ (.slice Ao35 y425.length co35 : Value).ownBlock) ∧ some k_ ≠ (.slice Ao40 t431.length co40 : Value).ownBlock) ∧ some k_ ≠ (.slice Ao41 t434.length co41 : Value).ownBlock)) _ _ l1 t438 _ ?side1 ?side2 A15.out).mono ?_); (case side1 => exact HO0.out); (case side2 => exact HO1.out); rintro e w42 ⟨v439, rfl, ho0, hb⟩; have n0_ := Az (Kd.V_elder' (by (with_reducible repeat (first | apply Kd.V_alloc | apply Kd.V_drewN | apply Kd.V_drew)); exact HO0.out) (Kd.R_base ho0) hb); have n1_ := Az (Kd.V_elder' (by (with_reducible repeat (first | apply Kd.V_alloc | apply Kd.V_drewN | apply Kd.V_drew)); exact HO1.out) (Kd.R_base ho0) hb); have n2_ := Az (Kd.N_elder' (by (with_reducible repeat (first | apply Kd.N_alloc | apply Kd.N_drewN | apply Kd.N_drew)); exact HO427.out) (Kd.R_base ho0) hb); have n3_ := Az (Kd.R_elder' (by (with_reducible repeat (first | apply Kd.R_alloc | apply Kd.R_drewN | apply Kd.R_drew)); exact HO433.out) (Kd.R_base ho0) hb); have n4_ := Az (Kd.R_elder' (by (with_reducible repeat (first | apply Kd.R_alloc | apply Kd.R_drewN | apply Kd.R_drew)); exact HO436.out) (Kd.R_base ho0) hb); have n5_ := Az (Kd.R_lower (Kd.R_new' (Kd.R_new' (Kd.R_newM (M := fun k_ => (w.heap.size ≤ k_)) (Kd.R_mono (ok' := fun k_ => True) ho0 (fun _ hk_ => trivial)) (below_size (by repeat (with_reducible first | exact HB.out | apply bal | apply bdN | apply bd1))) (fun k_ h_ => h_)) (Kd.R_lt (by (with_reducible repeat (first | apply Kd.R_alloc | apply Kd.R_drewN | apply Kd.R_drew)); exact HO433.out))) (Kd.R_lt (by (with_reducible repeat (first | apply Kd.R_alloc | apply Kd.R_drewN | apply Kd.R_drew)); exact HO436.out))) (below_size (by repeat (with_reducible first | exact HB.out | apply bal | apply bdN | apply bd1)))); have n6_ := Az (below_step (by repeat (with_reducible first | exact HB.out | apply bal | apply bdN | apply bd1)) hb); clear HO0; clear HO1; clear HO427; clear HO433; clear HO436; clear HB; have HO0 := n0_; have HO1 := n1_; have HO427 := n2_; have HO433 := n3_; have HO436 := n4_; have HO440 := n5_; have HB := n6_; clear n0_ n1_ n2_ n3_ n4_ n5_ n6_; (try clear hb); (try clear hb2); (try clear hk); (try clear hi); (try clear ho0)) | (go_at_call 18; (with_reducible refine (wageofficeref04_Union.calls k _ _ l0 _ _ l1 t441 _ ?side1 ?side2 ?side3 ?side4 A16.out).mono ?_); (case side1 => repeat (first | exact (Kd.V_reads' HO0.out).2.2 | (with_reducible refine Kd.C_alloc ?_ _) | (with_reducible refine Kd.C_drewN ?_ _) | (with_reducible refine Kd.C_drew ?_))); (case side2 => exact (Kd.V_reads' HO0.out).2.1); (case side3 => repeat (first | exact (Kd.V_reads' HO1.out).2.2 | (with_reducible refine Kd.C_alloc ?_ _) | (with_reducible refine Kd.C_drewN ?_ _) | (with_reducible refine Kd.C_drew ?_))); (case side4 => exact (Kd.V_reads' HO1.out).2.1); rintro e w43 ⟨v442, rfl, ho0, hb⟩; have n0_ := Az (Kd.V_elder' (by (with_reducible repeat (first | apply Kd.V_alloc | apply Kd.V_drewN | apply Kd.V_drew)); exact HO0.out) (Kd.R_base ho0) hb); have n1_ := Az (Kd.V_elder' (by (with_reducible repeat (first | apply Kd.V_alloc | apply Kd.V_drewN | apply Kd.V_drew)); exact HO1.out) (Kd.R_base ho0) hb); have n2_ := Az (Kd.N_elder' (by (with_reducible repeat (first | apply Kd.N_alloc | apply Kd.N_drewN | apply Kd.N_drew)); exact HO427.out) (Kd.R_base ho0) hb); have n3_ := Az (Kd.R_elder' (by (with_reducible repeat (first | apply Kd.R_alloc | apply Kd.R_drewN | apply Kd.R_drew)); exact HO433.out) (Kd.R_base ho0) hb); have n4_ := Az (Kd.R_elder' (by (with_reducible repeat (first | apply Kd.R_alloc | apply Kd.R_drewN | apply Kd.R_drew)); exact HO436.out) (Kd.R_base ho0) hb); have n5_ := Az (Kd.R_elder' (by (with_reducible repeat (first | apply Kd.R_alloc | apply Kd.R_drewN | apply Kd.R_drew)); exact HO440.out) (Kd.R_base ho0) hb); have n6_ := Az (Kd.R_lower (Kd.R_new' (Kd.R_new' (Kd.R_new' (Kd.R_newM (M := fun k_ => (w.heap.size ≤ k_)) ho0 (below_size (by repeat (with_reducible first | exact HB.out | apply bal | apply bdN | apply bd1))) (fun k_ h_ => h_)) (Kd.R_lt (by (with_reducible repeat (first | apply Kd.R_alloc | apply Kd.R_drewN | apply Kd.R_drew)); exact HO433.out))) (Kd.R_lt (by (with_reducible repeat (first | apply Kd.R_alloc | apply Kd.R_drewN | apply Kd.R_drew)); exact HO436.out))) (Kd.R_lt (by (with_reducible repeat (first | apply Kd.R_alloc | apply Kd.R_drewN | apply Kd.R_drew)); exact HO440.out))) (below_size (by repeat (with_reducible first | exact HB.out | apply bal | apply bdN | apply bd1)))); have n7_ := Az (below_step (by repeat (with_reducible first | exact HB.out | apply bal | apply bdN | apply bd1)) hb); clear HO0; clear HO1; clear HO427; clear HO433; clear HO436; clear HO440; clear HB; have HO0 := n0_; have HO1 := n1_; have HO427 := n2_; have HO433 := n3_; have HO436 := n4_; have HO440 := n5_; have HO443 := n6_; have HB := n7_; clear n0_ n1_ n2_ n3_ n4_ n5_ n6_ n7_; (try clear hb); (try clear hb2); (try clear hk); (try clear hi); (try clear ho0); obtain ⟨Ao44, co44, eo44⟩ := Kd.R_slice HO440.out; subst eo44; obtain ⟨Ao45, co45, eo45⟩ := Kd.R_slice HO443.out; subst eo45) | (go_at_call 14; (with_reducible refine (wageofficeref04_Same.calls k _ _ t438 _ _ t441 true _ ?side1 ?side2 ?side3 ?side4 A17.out).mono ?_); (case side1 => repeat (first | exact (Kd.R_reads' HO440.out).2.2 | (with_reducible refine Kd.C_alloc ?_ _) | (with_reducible refine Kd.C_drewN ?_ _) | (with_reducible refine Kd.C_drew ?_))); (case side2 => exact (Kd.R_reads' HO440.out).2.1); (case side3 => repeat (first | exact (Kd.R_reads' HO443.out).2.2 | (with_reducible refine Kd.C_alloc ?_ _) | (with_reducible refine Kd.C_drewN ?_ _) | (with_reducible refine Kd.C_drew ?_))); (case side4 => exact (Kd.R_reads' HO443.out).2.1); rintro e w' ⟨rfl, ⟨nd, rfl⟩⟩) | (go_at_call 19; (with_reducible refine (span_Meet.calls k (fun k_ => (((((((P0_ k_ ∨ P1_ k_) ∨ w.heap.size ≤ k_) ∧ some k_ ≠ (.slice Ao35 y425.length co35 : Value).ownBlock) ∧ some k_ ≠ (.slice Ao40 t431.length co40 : Value).ownBlock) ∧ some k_ ≠ (.slice Ao41 t434.length co41 : Value).ownBlock) ∧ some k_ ≠ (.slice Ao44 t438.length co44 : Value).ownBlock) ∧ some k_ ≠ (.slice Ao45 t441.length co45 : Value).ownBlock)) _ _ l0 (fun k_ => (((((((P0_ k_ ∨ P1_ k_) ∨ w.heap.size ≤ k_) ∧ some k_ ≠ (.slice Ao35 y425.length co35 : Value).ownBlock) ∧ some k_ ≠ (.slice Ao40 t431.length co40 : Value).ownBlock) ∧ some k_ ≠ (.slice Ao41 t434.length co41 : Value).ownBlock) ∧ some k_ ≠ (.slice Ao44 t438.length co44 : Value).ownBlock) ∧ some k_ ≠ (.slice Ao45 t441.length co45 : Value).ownBlock)) _ _ l1 t445 _ ?side1 ?side2 A19.out).mono ?_); (case side1 => exact HO0.out); (case side2 => exact HO1.out); rintro e w46 ⟨v446, rfl, ho0, hb⟩; have n0_ := Az (Kd.V_elder' (by (with_reducible repeat (first | apply Kd.V_alloc | apply Kd.V_drewN | apply Kd.V_drew)); exact HO0.out) (Kd.R_base ho0) hb); have n1_ := Az (Kd.V_elder' (by (with_reducible repeat (first | apply Kd.V_alloc | apply Kd.V_drewN | apply Kd.V_drew)); exact HO1.out) (Kd.R_base ho0) hb); have n2_ := Az (Kd.N_elder' (by (with_reducible repeat (first | apply Kd.N_alloc | apply Kd.N_drewN | apply Kd.N_drew)); exact HO427.out) (Kd.R_base ho0) hb); have n3_ := Az (Kd.R_elder' (by (with_reducible repeat (first | apply Kd.R_alloc | apply Kd.R_drewN | apply Kd.R_drew)); exact HO433.out) (Kd.R_base ho0) hb); have n4_ := Az (Kd.R_elder' (by (with_reducible repeat (first | apply Kd.R_alloc | apply Kd.R_drewN | apply Kd.R_drew)); exact HO436.out) (Kd.R_base ho0) hb); have n5_ := Az (Kd.R_elder' (by (with_reducible repeat (first | apply Kd.R_alloc | apply Kd.R_drewN | apply Kd.R_drew)); exact HO440.out) (Kd.R_base ho0) hb); have n6_ := Az (Kd.R_elder' (by (with_reducible repeat (first | apply Kd.R_alloc | apply Kd.R_drewN | apply Kd.R_drew)); exact HO443.out) (Kd.R_base ho0) hb); have n7_ := Az (Kd.R_lower (Kd.R_new' (Kd.R_new' (Kd.R_new' (Kd.R_new' (Kd.R_newM (M := fun k_ => (w.heap.size ≤ k_)) (Kd.R_mono (ok' := fun k_ => True) ho0 (fun _ hk_ => trivial)) (below_size (by repeat (with_reducible first | exact HB.out | apply bal | apply bdN | apply bd1))) (fun k_ h_ => h_)) (Kd.R_lt (by (with_reducible repeat (first | apply Kd.R_alloc | apply Kd.R_drewN | apply Kd.R_drew)); exact HO433.out))) (Kd.R_lt (by (with_reducible repeat (first | apply Kd.R_alloc | apply Kd.R_drewN | apply Kd.R_drew)); exact HO436.out))) (Kd.R_lt (by (with_reducible repeat (first | apply Kd.R_alloc | apply Kd.R_drewN | apply Kd.R_drew)); exact HO440.out))) (Kd.R_lt (by (with_reducible repeat (first | apply Kd.R_alloc | apply Kd.R_drewN | apply Kd.R_drew)); exact HO443.out))) (below_size (by repeat (with_reducible first | exact HB.out | apply bal | apply bdN | apply bd1)))); have n8_ := Az (below_step (by repeat (with_reducible first | exact HB.out | apply bal | apply bdN | apply bd1)) hb); clear HO0; clear HO1; clear HO427; clear HO433; clear HO436; clear HO440; clear HO443; clear HB; have HO0 := n0_; have HO1 := n1_; have HO427 := n2_; have HO433 := n3_; have HO436 := n4_; have HO440 := n5_; have HO443 := n6_; have HO447 := n7_; have HB := n8_; clear n0_ n1_ n2_ n3_ n4_ n5_ n6_ n7_ n8_; (try clear hb); (try clear hb2); (try clear hk); (try clear hi); (try clear ho0)) | (go_at_call 20; (with_reducible refine (wageofficeref04_Meet.calls k _ _ l0 _ _ l1 t448 _ ?side1 ?side2 ?side3 ?side4 A20.out).mono ?_); (case side1 => repeat (first | exact (Kd.V_reads' HO0.out).2.2 | (with_reducible refine Kd.C_alloc ?_ _) | (with_reducible refine Kd.C_drewN ?_ _) | (with_reducible refine Kd.C_drew ?_))); (case side2 => exact (Kd.V_reads' HO0.out).2.1); (case side3 => repeat (first | exact (Kd.V_reads' HO1.out).2.2 | (with_reducible refine Kd.C_alloc ?_ _) | (with_reducible refine Kd.C_drewN ?_ _) | (with_reducible refine Kd.C_drew ?_))); (case side4 => exact (Kd.V_reads' HO1.out).2.1); rintro e w47 ⟨v449, rfl, ho0, hb⟩; have n0_ := Az (Kd.V_elder' (by (with_reducible repeat (first | apply Kd.V_alloc | apply Kd.V_drewN | apply Kd.V_drew)); exact HO0.out) (Kd.R_base ho0) hb); have n1_ := Az (Kd.V_elder' (by (with_reducible repeat (first | apply Kd.V_alloc | apply Kd.V_drewN | apply Kd.V_drew)); exact HO1.out) (Kd.R_base ho0) hb); have n2_ := Az (Kd.N_elder' (by (with_reducible repeat (first | apply Kd.N_alloc | apply Kd.N_drewN | apply Kd.N_drew)); exact HO427.out) (Kd.R_base ho0) hb); have n3_ := Az (Kd.R_elder' (by (with_reducible repeat (first | apply Kd.R_alloc | apply Kd.R_drewN | apply Kd.R_drew)); exact HO433.out) (Kd.R_base ho0) hb); have n4_ := Az (Kd.R_elder' (by (with_reducible repeat (first | apply Kd.R_alloc | apply Kd.R_drewN | apply Kd.R_drew)); exact HO436.out) (Kd.R_base ho0) hb); have n5_ := Az (Kd.R_elder' (by (with_reducible repeat (first | apply Kd.R_alloc | apply Kd.R_drewN | apply Kd.R_drew)); exact HO440.out) (Kd.R_base ho0) hb); have n6_ := Az (Kd.R_elder' (by (with_reducible repeat (first | apply Kd.R_alloc | apply Kd.R_drewN | apply Kd.R_drew)); exact HO443.out) (Kd.R_base ho0) hb); have n7_ := Az (Kd.R_elder' (by (with_reducible repeat (first | apply Kd.R_alloc | apply Kd.R_drewN | apply Kd.R_drew)); exact HO447.out) (Kd.R_base ho0) hb); have n8_ := Az (Kd.R_lower (Kd.R_new' (Kd.R_new' (Kd.R_new' (Kd.R_new' (Kd.R_new' (Kd.R_newM (M := fun k_ => (w.heap.size ≤ k_)) ho0 (below_size (by repeat (with_reducible first | exact HB.out | apply bal | apply bdN | apply bd1))) (fun k_ h_ => h_)) (Kd.R_lt (by (with_reducible repeat (first | apply Kd.R_alloc | apply Kd.R_drewN | apply Kd.R_drew)); exact HO433.out))) (Kd.R_lt (by (with_reducible repeat (first | apply Kd.R_alloc | apply Kd.R_drewN | apply Kd.R_drew)); exact HO436.out))) (Kd.R_lt (by (with_reducible repeat (first | apply Kd.R_alloc | apply Kd.R_drewN | apply Kd.R_drew)); exact HO440.out))) (Kd.R_lt (by (with_reducible repeat (first | apply Kd.R_alloc | apply Kd.R_drewN | apply Kd.R_drew)); exact HO443.out))) (Kd.R_lt (by (with_reducible repeat (first | apply Kd.R_alloc | apply Kd.R_drewN | apply Kd.R_drew)); exact HO447.out))) (below_size (by repeat (with_reducible first | exact HB.out | apply bal | apply bdN | apply bd1)))); have n9_ := Az (below_step (by repeat (with_reducible first | exact HB.out | apply bal | apply bdN | apply bd1)) hb); clear HO0; clear HO1; clear HO427; clear HO433; clear HO436; clear HO440; clear HO443; clear HO447; clear HB; have HO0 := n0_; have HO1 := n1_; have HO427 := n2_; have HO433 := n3_; have HO436 := n4_; have HO440 := n5_; have HO443 := n6_; have HO447 := n7_; have HO450 := n8_; have HB := n9_; clear n0_ n1_ n2_ n3_ n4_ n5_ n6_ n7_ n8_ n9_; (try clear hb); (try clear hb2); (try clear hk); (try clear hi); (try clear ho0); obtain ⟨Ao48, co48, eo48⟩ := Kd.R_slice HO447.out; subst eo48; obtain ⟨Ao49, co49, eo49⟩ := Kd.R_slice HO450.out; subst eo49) | (go_at_call 14; (with_reducible refine (wageofficeref04_Same.calls k _ _ t445 _ _ t448 true _ ?side1 ?side2 ?side3 ?side4 A21.out).mono ?_); (case side1 => repeat (first | exact (Kd.R_reads' HO447.out).2.2 | (with_reducible refine Kd.C_alloc ?_ _) | (with_reducible refine Kd.C_drewN ?_ _) | (with_reducible refine Kd.C_drew ?_))); (case side2 => exact (Kd.R_reads' HO447.out).2.1); (case side3 => repeat (first | exact (Kd.R_reads' HO450.out).2.2 | (with_reducible refine Kd.C_alloc ?_ _) | (with_reducible refine Kd.C_drewN ?_ _) | (with_reducible refine Kd.C_drew ?_))); (case side4 => exact (Kd.R_reads' HO450.out).2.1); rintro e w' ⟨rfl, ⟨nd, rfl⟩⟩) | (go_at_call 21; (with_reducible refine (span_Minus.calls k (fun k_ => (((((((((P0_ k_ ∨ P1_ k_) ∨ w.heap.size ≤ k_) ∧ some k_ ≠ (.slice Ao35 y425.length co35 : Value).ownBlock) ∧ some k_ ≠ (.slice Ao40 t431.length co40 : Value).ownBlock) ∧ some k_ ≠ (.slice Ao41 t434.length co41 : Value).ownBlock) ∧ some k_ ≠ (.slice Ao44 t438.length co44 : Value).ownBlock) ∧ some k_ ≠ (.slice Ao45 t441.length co45 : Value).ownBlock) ∧ some k_ ≠ (.slice Ao48 t445.length co48 : Value).ownBlock) ∧ some k_ ≠ (.slice Ao49 t448.length co49 : Value).ownBlock)) _ _ l0 (fun k_ => (((((((((P0_ k_ ∨ P1_ k_) ∨ w.heap.size ≤ k_) ∧ some k_ ≠ (.slice Ao35 y425.length co35 : Value).ownBlock) ∧ some k_ ≠ (.slice Ao40 t431.length co40 : Value).ownBlock) ∧ some k_ ≠ (.slice Ao41 t434.length co41 : Value).ownBlock) ∧ some k_ ≠ (.slice Ao44 t438.length co44 : Value).ownBlock) ∧ some k_ ≠ (.slice Ao45 t441.length co45 : Value).ownBlock) ∧ some k_ ≠ (.slice Ao48 t445.length co48 : Value).ownBlock) ∧ some k_ ≠ (.slice Ao49 t448.length co49 : Value).ownBlock)) _ _ l1 t452 _ ?side1 ?side2 A23.out).mono ?_); (case side1 => exact HO0.out); (case side2 => exact HO1.out); rintro e w50 ⟨v453, rfl, ho0, hb⟩; have n0_ := Az (Kd.V_elder' (by (with_reducible repeat (first | apply Kd.V_alloc | apply Kd.V_drewN | apply Kd.V_drew)); exact HO0.out) (Kd.R_base ho0) hb); have n1_ := Az (Kd.V_elder' (by (with_reducible repeat (first | apply Kd.V_alloc | apply Kd.V_drewN | apply Kd.V_drew)); exact HO1.out) (Kd.R_base ho0) hb); have n2_ := Az (Kd.N_elder' (by (with_reducible repeat (first | apply Kd.N_alloc | apply Kd.N_drewN | apply Kd.N_drew)); exact HO427.out) (Kd.R_base ho0) hb); have n3_ := Az (Kd.R_elder' (by (with_reducible repeat (first | apply Kd.R_alloc | apply Kd.R_drewN | apply Kd.R_drew)); exact HO433.out) (Kd.R_base ho0) hb); have n4_ := Az (Kd.R_elder' (by (with_reducible repeat (first | apply Kd.R_alloc | apply Kd.R_drewN | apply Kd.R_drew)); exact HO436.out) (Kd.R_base ho0) hb); have n5_ := Az (Kd.R_elder' (by (with_reducible repeat (first | apply Kd.R_alloc | apply Kd.R_drewN | apply Kd.R_drew)); exact HO440.out) (Kd.R_base ho0) hb); have n6_ := Az (Kd.R_elder' (by (with_reducible repeat (first | apply Kd.R_alloc | apply Kd.R_drewN | apply Kd.R_drew)); exact HO443.out) (Kd.R_base ho0) hb); have n7_ := Az (Kd.R_elder' (by (with_reducible repeat (first | apply Kd.R_alloc | apply Kd.R_drewN | apply Kd.R_drew)); exact HO447.out) (Kd.R_base ho0) hb); have n8_ := Az (Kd.R_elder' (by (with_reducible repeat (first | apply Kd.R_alloc | apply Kd.R_drewN | apply Kd.R_drew)); exact HO450.out) (Kd.R_base ho0) hb); have n9_ := Az (Kd.R_lower (Kd.R_new' (Kd.R_new' (Kd.R_new' (Kd.R_new' (Kd.R_new' (Kd.R_new' (Kd.R_newM (M := fun k_ => (w.heap.size ≤ k_)) (Kd.R_mono (ok' := fun k_ => True) ho0 (fun _ hk_ => trivial)) (below_size (by repeat (with_reducible first | exact HB.out | apply bal | apply bdN | apply bd1))) (fun k_ h_ => h_)) (Kd.R_lt (by (with_reducible repeat (first | apply Kd.R_alloc | apply Kd.R_drewN | apply Kd.R_drew)); exact HO433.out))) (Kd.R_lt (by (with_reducible repeat (first | apply Kd.R_alloc | apply Kd.R_drewN | apply Kd.R_drew)); exact HO436.out))) (Kd.R_lt (by (with_reducible repeat (first | apply Kd.R_alloc | apply Kd.R_drewN | apply Kd.R_drew)); exact HO440.out))) (Kd.R_lt (by (with_reducible repeat (first | apply Kd.R_alloc | apply Kd.R_drewN | apply Kd.R_drew)); exact HO443.out))) (Kd.R_lt (by (with_reducible repeat (first | apply Kd.R_alloc | apply Kd.R_drewN | apply Kd.R_drew)); exact HO447.out))) (Kd.R_lt (by (with_reducible repeat (first | apply Kd.R_alloc | apply Kd.R_drewN | apply Kd.R_drew)); exact HO450.out))) (below_size (by repeat (with_reducible first | exact HB.out | apply bal | apply bdN | apply bd1)))); have n10_ := Az (below_step (by repeat (with_reducible first | exact HB.out | apply bal | apply bdN | apply bd1)) hb); clear HO0; clear HO1; clear HO427; clear HO433; clear HO436; clear HO440; clear HO443; clear HO447; clear HO450; clear HB; have HO0 := n0_; have HO1 := n1_; have HO427 := n2_; have HO433 := n3_; have HO436 := n4_; have HO440 := n5_; have HO443 := n6_; have HO447 := n7_; have HO450 := n8_; have HO454 := n9_; have HB := n10_; clear n0_ n1_ n2_ n3_ n4_ n5_ n6_ n7_ n8_ n9_ n10_; (try clear hb); (try clear hb2); (try clear hk); (try clear hi); (try clear ho0)) | (go_at_call 22; (with_reducible refine (wageofficeref04_Minus.calls k _ _ l0 _ _ l1 t455 _ ?side1 ?side2 ?side3 ?side4 A24.out).mono ?_); (case side1 => repeat (first | exact (Kd.V_reads' HO0.out).2.2 | (with_reducible refine Kd.C_alloc ?_ _) | (with_reducible refine Kd.C_drewN ?_ _) | (with_reducible refine Kd.C_drew ?_))); (case side2 => exact (Kd.V_reads' HO0.out).2.1); (case side3 => repeat (first | exact (Kd.V_reads' HO1.out).2.2 | (with_reducible refine Kd.C_alloc ?_ _) | (with_reducible refine Kd.C_drewN ?_ _) | (with_reducible refine Kd.C_drew ?_))); (case side4 => exact (Kd.V_reads' HO1.out).2.1); rintro e w51 ⟨v456, rfl, ho0, hb⟩; have n0_ := Az (Kd.V_elder' (by (with_reducible repeat (first | apply Kd.V_alloc | apply Kd.V_drewN | apply Kd.V_drew)); exact HO0.out) (Kd.R_base ho0) hb); have n1_ := Az (Kd.V_elder' (by (with_reducible repeat (first | apply Kd.V_alloc | apply Kd.V_drewN | apply Kd.V_drew)); exact HO1.out) (Kd.R_base ho0) hb); have n2_ := Az (Kd.N_elder' (by (with_reducible repeat (first | apply Kd.N_alloc | apply Kd.N_drewN | apply Kd.N_drew)); exact HO427.out) (Kd.R_base ho0) hb); have n3_ := Az (Kd.R_elder' (by (with_reducible repeat (first | apply Kd.R_alloc | apply Kd.R_drewN | apply Kd.R_drew)); exact HO433.out) (Kd.R_base ho0) hb); have n4_ := Az (Kd.R_elder' (by (with_reducible repeat (first | apply Kd.R_alloc | apply Kd.R_drewN | apply Kd.R_drew)); exact HO436.out) (Kd.R_base ho0) hb); have n5_ := Az (Kd.R_elder' (by (with_reducible repeat (first | apply Kd.R_alloc | apply Kd.R_drewN | apply Kd.R_drew)); exact HO440.out) (Kd.R_base ho0) hb); have n6_ := Az (Kd.R_elder' (by (with_reducible repeat (first | apply Kd.R_alloc | apply Kd.R_drewN | apply Kd.R_drew)); exact HO443.out) (Kd.R_base ho0) hb); have n7_ := Az (Kd.R_elder' (by (with_reducible repeat (first | apply Kd.R_alloc | apply Kd.R_drewN | apply Kd.R_drew)); exact HO447.out) (Kd.R_base ho0) hb); have n8_ := Az (Kd.R_elder' (by (with_reducible repeat (first | apply Kd.R_alloc | apply Kd.R_drewN | apply Kd.R_drew)); exact HO450.out) (Kd.R_base ho0) hb); have n9_ := Az (Kd.R_elder' (by (with_reducible repeat (first | apply Kd.R_alloc | apply Kd.R_drewN | apply Kd.R_drew)); exact HO454.out) (Kd.R_base ho0) hb); have n10_ := Az (Kd.R_lower (Kd.R_new' (Kd.R_new' (Kd.R_new' (Kd.R_new' (Kd.R_new' (Kd.R_new' (Kd.R_new' (Kd.R_newM (M := fun k_ => (w.heap.size ≤ k_)) ho0 (below_size (by repeat (with_reducible first | exact HB.out | apply bal | apply bdN | apply bd1))) (fun k_ h_ => h_)) (Kd.R_lt (by (with_reducible repeat (first | apply Kd.R_alloc | apply Kd.R_drewN | apply Kd.R_drew)); exact HO433.out))) (Kd.R_lt (by (with_reducible repeat (first | apply Kd.R_alloc | apply Kd.R_drewN | apply Kd.R_drew)); exact HO436.out))) (Kd.R_lt (by (with_reducible repeat (first | apply Kd.R_alloc | apply Kd.R_drewN | apply Kd.R_drew)); exact HO440.out))) (Kd.R_lt (by (with_reducible repeat (first | apply Kd.R_alloc | apply Kd.R_drewN | apply Kd.R_drew)); exact HO443.out))) (Kd.R_lt (by (with_reducible repeat (first | apply Kd.R_alloc | apply Kd.R_drewN | apply Kd.R_drew)); exact HO447.out))) (Kd.R_lt (by (with_reducible repeat (first | apply Kd.R_alloc | apply Kd.R_drewN | apply Kd.R_drew)); exact HO450.out))) (Kd.R_lt (by (with_reducible repeat (first | apply Kd.R_alloc | apply Kd.R_drewN | apply Kd.R_drew)); exact HO454.out))) (below_size (by repeat (with_reducible first | exact HB.out | apply bal | apply bdN | apply bd1)))); have n11_ := Az (below_step (by repeat (with_reducible first | exact HB.out | apply bal | apply bdN | apply bd1)) hb); clear HO0; clear HO1; clear HO427; clear HO433; clear HO436; clear HO440; clear HO443; clear HO447; clear HO450; clear HO454; clear HB; have HO0 := n0_; have HO1 := n1_; have HO427 := n2_; have HO433 := n3_; have HO436 := n4_; have HO440 := n5_; have HO443 := n6_; have HO447 := n7_; have HO450 := n8_; have HO454 := n9_; have HO457 := n10_; have HB := n11_; clear n0_ n1_ n2_ n3_ n4_ n5_ n6_ n7_ n8_ n9_ n10_ n11_; (try clear hb); (try clear hb2); (try clear hk); (try clear hi); (try clear ho0); obtain ⟨Ao52, co52, eo52⟩ := Kd.R_slice HO454.out; subst eo52; obtain ⟨Ao53, co53, eo53⟩ := Kd.R_slice HO457.out; subst eo53) | (go_at_call 14; (with_reducible refine (wageofficeref04_Same.calls k _ _ t452 _ _ t455 true _ ?side1 ?side2 ?side3 ?side4 A25.out).mono ?_); (case side1 => repeat (first | exact (Kd.R_reads' HO454.out).2.2 | (with_reducible refine Kd.C_alloc ?_ _) | (with_reducible refine Kd.C_drewN ?_ _) | (with_reducible refine Kd.C_drew ?_))); (case side2 => exact (Kd.R_reads' HO454.out).2.1); (case side3 => repeat (first | exact (Kd.R_reads' HO457.out).2.2 | (with_reducible refine Kd.C_alloc ?_ _) | (with_reducible refine Kd.C_drewN ?_ _) | (with_reducible refine Kd.C_drew ?_))); (case side4 => exact (Kd.R_reads' HO457.out).2.1); rintro e w' ⟨rfl, ⟨nd, rfl⟩⟩) | (go_at_call 23; (with_reducible refine (span_Has.calls _ _ l0 a2 t459 _ ?side1 ?side2 A27.out).mono ?_); (case side1 => repeat (first | exact (Kd.V_reads' HO0.out).2.2 | (with_reducible refine Kd.C_alloc ?_ _) | (with_reducible refine Kd.C_drewN ?_ _) | (with_reducible refine Kd.C_drew ?_))); (case side2 => exact (Kd.V_reads' HO0.out).2.1); rintro e w54 ⟨rfl, hb⟩; have n0_ := Az (Kd.V_below (by (with_reducible repeat (first | apply Kd.V_alloc | apply Kd.V_drewN | apply Kd.V_drew)); exact HO0.out) hb); have n1_ := Az (Kd.V_below (by (with_reducible repeat (first | apply Kd.V_alloc | apply Kd.V_drewN | apply Kd.V_drew)); exact HO1.out) hb); have n2_ := Az (Kd.N_below (by (with_reducible repeat (first | apply Kd.N_alloc | apply Kd.N_drewN | apply Kd.N_drew)); exact HO427.out) hb); have n3_ := Az (Kd.R_below (by (with_reducible repeat (first | apply Kd.R_alloc | apply Kd.R_drewN | apply Kd.R_drew)); exact HO433.out) hb); have n4_ := Az (Kd.R_below (by (with_reducible repeat (first | apply Kd.R_alloc | apply Kd.R_drewN | apply Kd.R_drew)); exact HO436.out) hb); have n5_ := Az (Kd.R_below (by (with_reducible repeat (first | apply Kd.R_alloc | apply Kd.R_drewN | apply Kd.R_drew)); exact HO440.out) hb); have n6_ := Az (Kd.R_below (by (with_reducible repeat (first | apply Kd.R_alloc | apply Kd.R_drewN | apply Kd.R_drew)); exact HO443.out) hb); have n7_ := Az (Kd.R_below (by (with_reducible repeat (first | apply Kd.R_alloc | apply Kd.R_drewN | apply Kd.R_drew)); exact HO447.out) hb); have n8_ := Az (Kd.R_below (by (with_reducible repeat (first | apply Kd.R_alloc | apply Kd.R_drewN | apply Kd.R_drew)); exact HO450.out) hb); have n9_ := Az (Kd.R_below (by (with_reducible repeat (first | apply Kd.R_alloc | apply Kd.R_drewN | apply Kd.R_drew)); exact HO454.out) hb); have n10_ := Az (Kd.R_below (by (with_reducible repeat (first | apply Kd.R_alloc | apply Kd.R_drewN | apply Kd.R_drew)); exact HO457.out) hb); have n11_ := Az (below_step (by repeat (with_reducible first | exact HB.out | apply bal | apply bdN | apply bd1)) hb); clear HO0; clear HO1; clear HO427; clear HO433; clear HO436; clear HO440; clear HO443; clear HO447; clear HO450; clear HO454; clear HO457; clear HB; have HO0 := n0_; have HO1 := n1_; have HO427 := n2_; have HO433 := n3_; have HO436 := n4_; have HO440 := n5_; have HO443 := n6_; have HO447 := n7_; have HO450 := n8_; have HO454 := n9_; have HO457 := n10_; have HB := n11_; clear n0_ n1_ n2_ n3_ n4_ n5_ n6_ n7_ n8_ n9_ n10_ n11_; (try clear hb); (try clear hb2); (try clear hk); (try clear hi)) | (go_at_call 24; (with_reducible refine (wageofficeref04_Has.calls k _ _ l0 a2 t460 _ ?side1 ?side2 A28.out).mono ?_); (case side1 => repeat (first | exact (Kd.V_reads' HO0.out).2.2 | (with_reducible refine Kd.C_alloc ?_ _) | (with_reducible refine Kd.C_drewN ?_ _) | (with_reducible refine Kd.C_drew ?_))); (case side2 => exact (Kd.V_reads' HO0.out).2.1); rintro e w55 ⟨rfl, hb⟩; have n0_ := Az (Kd.V_below (by (with_reducible repeat (first | apply Kd.V_alloc | apply Kd.V_drewN | apply Kd.V_drew)); exact HO0.out) hb); have n1_ := Az (Kd.V_below (by (with_reducible repeat (first | apply Kd.V_alloc | apply Kd.V_drewN | apply Kd.V_drew)); exact HO1.out) hb); have n2_ := Az (Kd.N_below (by (with_reducible repeat (first | apply Kd.N_alloc | apply Kd.N_drewN | apply Kd.N_drew)); exact HO427.out) hb); have n3_ := Az (Kd.R_below (by (with_reducible repeat (first | apply Kd.R_alloc | apply Kd.R_drewN | apply Kd.R_drew)); exact HO433.out) hb); have n4_ := Az (Kd.R_below (by (with_reducible repeat (first | apply Kd.R_alloc | apply Kd.R_drewN | apply Kd.R_drew)); exact HO436.out) hb); have n5_ := Az (Kd.R_below (by (with_reducible repeat (first | apply Kd.R_alloc | apply Kd.R_drewN | apply Kd.R_drew)); exact HO440.out) hb); have n6_ := Az (Kd.R_below (by (with_reducible repeat (first | apply Kd.R_alloc | apply Kd.R_drewN | apply Kd.R_drew)); exact HO443.out) hb); have n7_ := Az (Kd.R_below (by (with_reducible repeat (first | apply Kd.R_alloc | apply Kd.R_drewN | apply Kd.R_drew)); exact HO447.out) hb); have n8_ := Az (Kd.R_below (by (with_reducible repeat (first | apply Kd.R_alloc | apply Kd.R_drewN | apply Kd.R_drew)); exact HO450.out) hb); have n9_ := Az (Kd.R_below (by (with_reducible repeat (first | apply Kd.R_alloc | apply Kd.R_drewN | apply Kd.R_drew)); exact HO454.out) hb); have n10_ := Az (Kd.R_below (by (with_reducible repeat (first | apply Kd.R_alloc | apply Kd.R_drewN | apply Kd.R_drew)); exact HO457.out) hb); have n11_ := Az (below_step (by repeat (with_reducible first | exact HB.out | apply bal | apply bdN | apply bd1)) hb); clear HO0; clear HO1; clear HO427; clear HO433; clear HO436; clear HO440; clear HO443; clear HO447; clear HO450; clear HO454; clear HO457; clear HB; have HO0 := n0_; have HO1 := n1_; have HO427 := n2_; have HO433 := n3_; have HO436 := n4_; have HO440 := n5_; have HO443 := n6_; have HO447 := n7_; have HO450 := n8_; have HO454 := n9_; have HO457 := n10_; have HB := n11_; clear n0_ n1_ n2_ n3_ n4_ n5_ n6_ n7_ n8_ n9_ n10_ n11_; (try clear hb); (try clear hb2); (try clear hk); (try clear hi)) | (go_at_call 25; (with_reducible refine (span_Size.calls k _ _ l0 t461 _ ?side1 ?side2 A30.out).mono ?_); (case side1 => repeat (first | exact (Kd.V_reads' HO0.out).2.2 | (with_reducible refine Kd.C_alloc ?_ _) | (with_reducible refine Kd.C_drewN ?_ _) | (with_reducible refine Kd.C_drew ?_))); (case side2 => exact (Kd.V_reads' HO0.out).2.1); rintro e w56 ⟨rfl, hb⟩; have n0_ := Az (Kd.V_below (by (with_reducible repeat (first | apply Kd.V_alloc | apply Kd.V_drewN | apply Kd.V_drew)); exact HO0.out) hb); have n1_ := Az (Kd.V_below (by (with_reducible repeat (first | apply Kd.V_alloc | apply Kd.V_drewN | apply Kd.V_drew)); exact HO1.out) hb); have n2_ := Az (Kd.N_below (by (with_reducible repeat (first | apply Kd.N_alloc | apply Kd.N_drewN | apply Kd.N_drew)); exact HO427.out) hb); have n3_ := Az (Kd.R_below (by (with_reducible repeat (first | apply Kd.R_alloc | apply Kd.R_drewN | apply Kd.R_drew)); exact HO433.out) hb); have n4_ := Az (Kd.R_below (by (with_reducible repeat (first | apply Kd.R_alloc | apply Kd.R_drewN | apply Kd.R_drew)); exact HO436.out) hb); have n5_ := Az (Kd.R_below (by (with_reducible repeat (first | apply Kd.R_alloc | apply Kd.R_drewN | apply Kd.R_drew)); exact HO440.out) hb); have n6_ := Az (Kd.R_below (by (with_reducible repeat (first | apply Kd.R_alloc | apply Kd.R_drewN | apply Kd.R_drew)); exact HO443.out) hb); have n7_ := Az (Kd.R_below (by (with_reducible repeat (first | apply Kd.R_alloc | apply Kd.R_drewN | apply Kd.R_drew)); exact HO447.out) hb); have n8_ := Az (Kd.R_below (by (with_reducible repeat (first | apply Kd.R_alloc | apply Kd.R_drewN | apply Kd.R_drew)); exact HO450.out) hb); have n9_ := Az (Kd.R_below (by (with_reducible repeat (first | apply Kd.R_alloc | apply Kd.R_drewN | apply Kd.R_drew)); exact HO454.out) hb); have n10_ := Az (Kd.R_below (by (with_reducible repeat (first | apply Kd.R_alloc | apply Kd.R_drewN | apply Kd.R_drew)); exact HO457.out) hb); have n11_ := Az (below_step (by repeat (with_reducible first | exact HB.out | apply bal | apply bdN | apply bd1)) hb); clear HO0; clear HO1; clear HO427; clear HO433; clear HO436; clear HO440; clear HO443; clear HO447; clear HO450; clear HO454; clear HO457; clear HB; have HO0 := n0_; have HO1 := n1_; have HO427 := n2_; have HO433 := n3_; have HO436 := n4_; have HO440 := n5_; have HO443 := n6_; have HO447 := n7_; have HO450 := n8_; have HO454 := n9_; have HO457 := n10_; have HB := n11_; clear n0_ n1_ n2_ n3_ n4_ n5_ n6_ n7_ n8_ n9_ n10_ n11_; (try clear hb); (try clear hb2); (try clear hk); (try clear hi)) | (go_at_call 26; (with_reducible refine (wageofficeref04_Size.calls k _ _ l0 t462 _ ?side1 ?side2 A31.out).mono ?_); (case side1 => repeat (first | exact (Kd.V_reads' HO0.out).2.2 | (with_reducible refine Kd.C_alloc ?_ _) | (with_reducible refine Kd.C_drewN ?_ _) | (with_reducible refine Kd.C_drew ?_))); (case side2 => exact (Kd.V_reads' HO0.out).2.1); rintro e w57 ⟨rfl, hb⟩; have n0_ := Az (Kd.V_below (by (with_reducible repeat (first | apply Kd.V_alloc | apply Kd.V_drewN | apply Kd.V_drew)); exact HO0.out) hb); have n1_ := Az (Kd.V_below (by (with_reducible repeat (first | apply Kd.V_alloc | apply Kd.V_drewN | apply Kd.V_drew)); exact HO1.out) hb); have n2_ := Az (Kd.N_below (by (with_reducible repeat (first | apply Kd.N_alloc | apply Kd.N_drewN | apply Kd.N_drew)); exact HO427.out) hb); have n3_ := Az (Kd.R_below (by (with_reducible repeat (first | apply Kd.R_alloc | apply Kd.R_drewN | apply Kd.R_drew)); exact HO433.out) hb); have n4_ := Az (Kd.R_below (by (with_reducible repeat (first | apply Kd.R_alloc | apply Kd.R_drewN | apply Kd.R_drew)); exact HO436.out) hb); have n5_ := Az (Kd.R_below (by (with_reducible repeat (first | apply Kd.R_alloc | apply Kd.R_drewN | apply Kd.R_drew)); exact HO440.out) hb); have n6_ := Az (Kd.R_below (by (with_reducible repeat (first | apply Kd.R_alloc | apply Kd.R_drewN | apply Kd.R_drew)); exact HO443.out) hb); have n7_ := Az (Kd.R_below (by (with_reducible repeat (first | apply Kd.R_alloc | apply Kd.R_drewN | apply Kd.R_drew)); exact HO447.out) hb); have n8_ := Az (Kd.R_below (by (with_reducible repeat (first | apply Kd.R_alloc | apply Kd.R_drewN | apply Kd.R_drew)); exact HO450.out) hb); have n9_ := Az (Kd.R_below (by (with_reducible repeat (first | apply Kd.R_alloc | apply Kd.R_drewN | apply Kd.R_drew)); exact HO454.out) hb); have n10_ := Az (Kd.R_below (by (with_reducible repeat (first | apply Kd.R_alloc | apply Kd.R_drewN | apply Kd.R_drew)); exact HO457.out) hb); have n11_ := Az (below_step (by repeat (with_reducible first | exact HB.out | apply bal | apply bdN | apply bd1)) hb); clear HO0; clear HO1; clear HO427; clear HO433; clear HO436; clear HO440; clear HO443; clear HO447; clear HO450; clear HO454; clear HO457; clear HB; have HO0 := n0_; have HO1 := n1_; have HO427 := n2_; have HO433 := n3_; have HO436 := n4_; have HO440 := n5_; have HO443 := n6_; have HO447 := n7_; have HO450 := n8_; have HO454 := n9_; have HO457 := n10_; have HB := n11_; clear n0_ n1_ n2_ n3_ n4_ n5_ n6_ n7_ n8_ n9_ n10_ n11_; (try clear hb); (try clear hb2); (try clear hk); (try clear hi)))
                  go_ret
                  exact ⟨by first | rfl | (simp [errW_none, errW_some] <;> rfl) | (simp [*, errW_none, errW_some] <;> rfl), by repeat (with_reducible first | exact HB.out | apply bal | apply bdN | apply bd1)⟩
                · rw [if_neg c29] at H
                  exact absurd H (by simp)
              · replace c26 := Bool.eq_false_iff.mpr c26
                subst c26
                have H1 : (none) = some r := by rw [if_neg (show ¬ (false = true) by decide)] at H; exact H
                clear H
                have H := H1
                clear H1
                exact absurd H (by simp)
            · replace c22 := Bool.eq_false_iff.mpr c22
              subst c22
              have H1 : (none) = some r := by rw [if_neg (show ¬ (false = true) by decide)] at H; exact H
              clear H
              have H := H1
              clear H1
              exact absurd H (by simp)
          · replace c18 := Bool.eq_false_iff.mpr c18
            subst c18
            have H1 : (none) = some r := by rw [if_neg (show ¬ (false = true) by decide)] at H; exact H
            clear H
            have H := H1
            clear H1
            exact absurd H (by simp)
        · replace c14 := Bool.eq_false_iff.mpr c14
          subst c14
          have H1 : (none) = some r := by rw [if_neg (show ¬ (false = true) by decide)] at H; exact H
          clear H
          have H := H1
          clear H1
          exact absurd H (by simp)
      · rw [if_neg c10] at H
        exact absurd H (by simp)
    · replace c7 := Bool.eq_false_iff.mpr c7
      subst c7
      have H1 : (none) = some r := by rw [if_neg (show ¬ (false = true) by decide)] at H; exact H
      clear H
      have H := H1
      clear H1
      exact absurd H (by simp)
  · replace c6 := Bool.eq_false_iff.mpr c6
    subst c6
    have H1 : (some t424) = some r := by rw [if_neg (show ¬ (false = true) by decide)] at H; exact H
    clear H
    have H := H1
    clear H1
    obtain rfl := Option.some.inj H
    go_enter Try.func3, Try.ntmps3
    go_wp2_with (first | ((with_reducible refine gate_callee (f := 10) rfl ?_); refine goesL_ (some 8) rfl rfl Try.func10 (by kernel_rfl) rfl #[] rfl (by (try simp only [List.map_toArray, List.map_cons, List.map_nil]); first | done | rfl) ?_; (with_reducible refine (wageofficelaw04_head.calls k  t424 _ A4.out).mono ?_); rintro e w58 ⟨rfl, hb⟩; refine ⟨_, rfl, ?_⟩; have n0_ := Az (Kd.V_below (by (with_reducible repeat (first | apply Kd.V_alloc | apply Kd.V_drewN | apply Kd.V_drew)); exact HO0.out) hb); have n1_ := Az (Kd.V_below (by (with_reducible repeat (first | apply Kd.V_alloc | apply Kd.V_drewN | apply Kd.V_drew)); exact HO1.out) hb); have n2_ := Az (below_step (by repeat (with_reducible first | exact HB.out | apply bal | apply bdN | apply bd1)) hb); clear HO0; clear HO1; clear HB; have HO0 := n0_; have HO1 := n1_; have HB := n2_; clear n0_ n1_ n2_; (try clear hb); (try clear hb2); (try clear hk); (try clear hi)) | ((with_reducible refine gate_dst (N := 11) rfl ?_); refine Kd.N_lit (Kd.slice 33 k33) _ 22 ?hg (N' := 11) ?hd (xs := ([l0, l1] : List (List (S33)))) (inner := [.slice A0 l0.length c0, .slice A1 l1.length c1]) (ok := (fun k_ => ((P0_ k_ ∨ P1_ k_) ∨ w.heap.size ≤ k_))) (okp := (fun k_ => ((P0_ k_ ∨ P1_ k_) ∨ w.heap.size ≤ k_))) ?hr ?hp (fun _ hk => hk) ((show ∀ k_, w58.heap.size ≤ k_ → (fun k_ => ((P0_ k_ ∨ P1_ k_) ∨ w.heap.size ≤ k_)) k_ from fun k_ hk => (.inr (Nat.le_trans (below_size (by repeat (with_reducible first | exact HB.out | apply bal | apply bdN | apply bd1))) hk))) _ (Nat.le_refl _)) (Below.refl _ _) (Nat.le_refl _) (by simp) ?_; (case hd => rfl); (case hg => rfl); (case hr => first | (go_simp; done) | (go_simp; rfl)); (case hp => exact (Reps.one (show Kd.FK (Kd.slice 33 k33) _ _ l0 [.slice A0 l0.length c0] from (Kd.FK_slice_mk (Kd.V_reads' (Kd.V_mono (ok' := (fun k_ => ((P0_ k_ ∨ P1_ k_) ∨ w.heap.size ≤ k_))) (HO0.out) (fun k_ hk => hk))).2.1 (Kd.V_F (Kd.V_mono (ok' := (fun k_ => ((P0_ k_ ∨ P1_ k_) ∨ w.heap.size ≤ k_))) (HO0.out) (fun k_ hk => hk))))) (Reps.one (show Kd.FK (Kd.slice 33 k33) _ _ l1 [.slice A1 l1.length c1] from (Kd.FK_slice_mk (Kd.V_reads' (Kd.V_mono (ok' := (fun k_ => ((P0_ k_ ∨ P1_ k_) ∨ w.heap.size ≤ k_))) (HO1.out) (fun k_ hk => hk))).2.1 (Kd.V_F (Kd.V_mono (ok' := (fun k_ => ((P0_ k_ ∨ P1_ k_) ∨ w.heap.size ≤ k_))) (HO1.out) (fun k_ hk => hk))))) (Reps.none _ _)))); intro v426 w59 ho60 hb hg_ hnew_; clear hg_ hnew_; (first | rw [← Ny425.out] at ho60 | (simp only [Int.reduceToNat] at ho60; rw [← Ny425.out] at ho60)); have n0_ := Az (Kd.V_elder' (by (with_reducible repeat (first | apply Kd.V_alloc | apply Kd.V_drewN | apply Kd.V_drew)); exact HO0.out) (Kd.N_base ho60) hb); have n1_ := Az (Kd.V_elder' (by (with_reducible repeat (first | apply Kd.V_alloc | apply Kd.V_drewN | apply Kd.V_drew)); exact HO1.out) (Kd.N_base ho60) hb); have n2_ := Az (Kd.N_lower ho60 (below_size (by repeat (with_reducible first | exact HB.out | apply bal | apply bdN | apply bd1)))); have n3_ := Az (below_step (by repeat (with_reducible first | exact HB.out | apply bal | apply bdN | apply bd1)) hb); clear HO0; clear HO1; clear HB; have HO0 := n0_; have HO1 := n1_; have HO427 := n2_; have HB := n3_; clear n0_ n1_ n2_ n3_; clear hb ho60; obtain ⟨Ao61, co61, eo61⟩ := Kd.N_slice HO427.out; subst eo61) | ((with_reducible refine gate_callee (f := 11) rfl ?_); refine goesL_ (some 12) rfl rfl Try.func11 (by kernel_rfl) rfl #[.slice Ao61 y425.length co61] rfl (by (try simp only [List.map_toArray, List.map_cons, List.map_nil]); first | done | rfl) ?_; (with_reducible refine (wageofficelaw04_short.calls k _ _ y425 false _ ?side1 ?side2 A5.out).mono ?_); (case side1 => repeat (first | exact (Kd.N_reads' HO427.out).2.2 | (with_reducible refine Kd.C_alloc ?_ _) | (with_reducible refine Kd.C_drewN ?_ _) | (with_reducible refine Kd.C_drew ?_))); (case side2 => exact (Kd.N_reads' HO427.out).2.1); rintro e w' ⟨rfl, ⟨nd, rfl⟩⟩; refine ⟨_, rfl, ?_⟩))
    go_ret
    exact ⟨by first | rfl | (simp [errW_none, errW_some] <;> rfl) | (simp [*, errW_none, errW_some] <;> rfl), by repeat (with_reducible first | exact HB.out | apply bal | apply bdN | apply bd1)⟩
end Go.Proofs.Ytgplnfhpeeifjaa.Q

namespace Go.Proofs.Ytgplnfhpeeifjaa.Q
open Go.RowKit Go.Proofs.YtgplnfhpeeifjaaW.PrintWords Go.Proofs.YtgplnfhpeeifjaaW.PrintLast Go.Proofs.YtgplnfhpeeifjaaW.PrintMore
set_option linter.unusedVariables false
set_option linter.unusedSimpArgs false
def isP (s : S33) : Bool := decide (s.f0 ≥ -1152921504606846976) && decide (s.f1 ≤ 1152921504606846976) && decide (s.f0 < s.f1)
def inS (n : Int) (s : S33) : Bool := hasP n s.f0 s.f1
def mem (l : List S33) (n : Int) : Bool := l.any (inS n)
def cnt (l : List S33) (n : Int) : Int := ((l.filter (inS n)).length : Int)
theorem inS_iff (n : Int) (s : S33) : inS n s = true ↔ isP s = true ∧ s.f0 ≤ n ∧ n < s.f1 := by
  unfold inS hasP isP
  simp only [Bool.and_eq_true, decide_eq_true_eq]
  omega
theorem isP_iff (s : S33) : isP s = true ↔ -1152921504606846976 ≤ s.f0 ∧ s.f1 ≤ 1152921504606846976 ∧ s.f0 < s.f1 := by
  unfold isP
  simp only [Bool.and_eq_true, decide_eq_true_eq]
  omega
theorem cnt_nonneg (l : List S33) (n : Int) : 0 ≤ cnt l n := by unfold cnt; omega
theorem cnt_le (l : List S33) (n : Int) : cnt l n ≤ l.length := by
  unfold cnt
  have := List.length_filter_le (inS n) l
  omega
theorem cnt_pos (l : List S33) (n : Int) : decide (cnt l n > 0) = mem l n := by
  unfold cnt mem
  by_cases h : l.any (inS n) = true
  · obtain ⟨s, hs, hn⟩ := List.any_eq_true.1 h
    have : s ∈ l.filter (inS n) := List.mem_filter.2 ⟨hs, hn⟩
    have h2 : 0 < (l.filter (inS n)).length := List.length_pos_of_mem this
    rw [h]
    simp only [decide_eq_true_eq]
    omega
  · have h2 : l.filter (inS n) = [] := by
      rw [List.filter_eq_nil_iff]
      intro s hs hn
      exact h (List.any_eq_true.2 ⟨s, hs, hn⟩)
    rw [h2]
    simp only [Bool.not_eq_true] at h
    rw [h]
    rfl
theorem cnt_zero (l : List S33) (n : Int) : (cnt l n == 0) = !mem l n := by
  rw [← cnt_pos]
  have := cnt_nonneg l n
  by_cases h : cnt l n = 0
  · simp [h]
  · have h2 : cnt l n > 0 := by omega
    simp [h, h2]
def edgs (k : Int) (l : List S33) : List S54 := l.flatMap fun s => if isP s = true then [⟨s.f0, k, 1⟩, ⟨s.f1, k, -1⟩] else []
def sumBy (k n : Int) (E : List S54) : Int := (E.map fun e => if e.f1 = k ∧ e.f0 ≤ n then e.f2 else 0).sum
theorem sumBy_append (k n : Int) (E F : List S54) : sumBy k n (E ++ F) = sumBy k n E + sumBy k n F := by simp [sumBy]
theorem sumBy_perm {E F : List S54} (k n : Int) (h : E.Perm F) : sumBy k n E = sumBy k n F := by
  induction h with
  | nil => rfl
  | cons x _ ih => simp only [sumBy, List.map_cons, List.sum_cons] at ih ⊢; rw [ih]
  | swap x y l => simp only [sumBy, List.map_cons, List.sum_cons]; omega
  | trans _ _ ih1 ih2 => exact ih1.trans ih2
theorem sumBy_edgs (k n : Int) (l : List S33) : sumBy k n (edgs k l) = cnt l n := by
  induction l with
  | nil => rfl
  | cons s l ih =>
    have e1 : edgs k (s :: l) = (if isP s = true then [⟨s.f0, k, 1⟩, ⟨s.f1, k, -1⟩] else []) ++ edgs k l := by simp [edgs]
    rw [e1, sumBy_append, ih]
    unfold cnt
    rw [List.filter_cons]
    have hi := inS_iff n s
    have hp := isP_iff s
    by_cases h : isP s = true
    · rw [if_pos h]
      have hp := hp.1 h
      by_cases hn : inS n s = true
      · have hn2 := hi.1 hn
        rw [if_pos hn]
        have e : sumBy k n [⟨s.f0, k, 1⟩, ⟨s.f1, k, -1⟩] = 1 := by
          simp only [sumBy, List.map_cons, List.map_nil, List.sum_cons, List.sum_nil]
          rw [if_pos ⟨trivial, hn2.2.1⟩, if_neg (by omega)]
          rfl
        rw [e, List.length_cons]
        omega
      · rw [if_neg hn]
        have hn2 : ¬ (s.f0 ≤ n ∧ n < s.f1) := fun q => hn (hi.2 ⟨h, q⟩)
        have e : sumBy k n [⟨s.f0, k, 1⟩, ⟨s.f1, k, -1⟩] = 0 := by
          simp only [sumBy, List.map_cons, List.map_nil, List.sum_cons, List.sum_nil, true_and]
          by_cases q : s.f0 ≤ n
          · rw [if_pos q, if_pos (by omega)]; rfl
          · rw [if_neg q, if_neg (by omega)]; rfl
        rw [e]
        omega
    · rw [if_neg h]
      have hn : ¬ inS n s = true := fun q => h (hi.1 q).1
      rw [if_neg hn]
      have : sumBy k n ([] : List S54) = 0 := rfl
      rw [this]
      omega
theorem sumBy_other (k j n : Int) (h : j ≠ k) (l : List S33) : sumBy j n (edgs k l) = 0 := by
  have : ∀ e ∈ edgs k l, e.f1 = k := by
    intro e he
    simp only [edgs, List.mem_flatMap] at he
    obtain ⟨s, _, hs⟩ := he
    split at hs
    · simp at hs
      rcases hs with rfl | rfl <;> rfl
    · simp at hs
  unfold sumBy
  generalize edgs k l = E at this
  induction E with
  | nil => rfl
  | cons e E ih =>
    rw [List.map_cons, List.sum_cons, ih (fun x hx => this x (List.mem_cons_of_mem _ hx)), if_neg (fun q => h (q.1.symm.trans (this e List.mem_cons_self)))]
    rfl
theorem edgs_len (k : Int) (l : List S33) : (edgs k l).length ≤ 2 * l.length := by
  induction l with
  | nil => simp [edgs]
  | cons s l ih =>
    have e1 : edgs k (s :: l) = (if isP s = true then [⟨s.f0, k, 1⟩, ⟨s.f1, k, -1⟩] else []) ++ edgs k l := by simp [edgs]
    rw [e1, List.length_append, List.length_cons]
    split
    · simp only [List.length_cons, List.length_nil]; omega
    · simp only [List.length_nil]; omega
theorem edgs_mem {k : Int} {l : List S33} {e : S54} (h : e ∈ edgs k l) : e.f1 = k ∧ (e.f2 = 1 ∨ e.f2 = -1) ∧ -1152921504606846976 ≤ e.f0 ∧ e.f0 ≤ 1152921504606846976 := by
  simp only [edgs, List.mem_flatMap] at h
  obtain ⟨s, _, hs⟩ := h
  split at hs
  · rename_i hp
    have hp := (isP_iff s).1 hp
    simp at hs
    rcases hs with rfl | rfl
    · exact ⟨rfl, .inl rfl, by simp; omega, by simp; omega⟩
    · exact ⟨rfl, .inr rfl, by simp; omega, by simp; omega⟩
  · simp at hs
def nextAt (rest : List S54) (a : Int) : Bool := match rest with | [] => false | e :: _ => e.f0 == a
def up (c k : Int) (e : S54) : Int := if e.f1 = k then c + e.f2 else c
def sweep (q : Int → Int → Bool) : List S54 → Int → Int → Bool → Int → List S33 → List S33
  | [], _, _, _, _, out => out
  | e :: rest, c0, c1, ins, fr, out =>
    if (nextAt rest e.f0 || q (up c0 0 e) (up c1 1 e) == ins) = true then sweep q rest (up c0 0 e) (up c1 1 e) ins fr out
    else sweep q rest (up c0 0 e) (up c1 1 e) (!ins) e.f0 (if ins = true then out ++ [⟨fr, e.f0⟩] else out)
def okE (E : List S54) : Prop := ∀ e ∈ E, (e.f1 = 0 ∨ e.f1 = 1) ∧ (e.f2 = 1 ∨ e.f2 = -1)
theorem rd_E (E : List S54) (i : Nat) (h : i < E.length) : rd_T54 E (i : Int) = E[i] := by simp [rd_T54, List.getD_eq_getElem?_getD, List.getElem?_eq_getElem h]
theorem nextAt_drop (E : List S54) (i : Nat) (a : Int) : nextAt (E.drop (i + 1)) a = if h : i + 1 < E.length then (E[i + 1].f0 == a) else false := by
  by_cases h : i + 1 < E.length
  · rw [dif_pos h, List.drop_eq_getElem_cons h]
    rfl
  · rw [dif_neg h, List.drop_eq_nil_of_le (by omega)]
    rfl
set_option maxHeartbeats 1000000 in
theorem l2_sweep (pp : Int → Int → Option Bool) (q : Int → Int → Bool) (hpp : ∀ a b : Int, -1000000000 ≤ a → a ≤ 1000000000 → -1000000000 ≤ b → b ≤ 1000000000 → pp a b = some (q a b)) (E : List S54) (hE : okE E) (hl : E.length ≤ 1000000) :
    ∀ (d i : Nat) (c0 c1 : Int) (ins : Bool) (fr : Int) (out : List S33), i ≤ E.length → E.length - i = d → -(i : Int) ≤ c0 → c0 ≤ i → -(i : Int) ≤ c1 → c1 ≤ i → out.length ≤ i →
      Ev (fun k => span_combine.l2 pp k E out ins fr E (E.length : Int) (i : Int) c0 c1) (sweep q (E.drop i) c0 c1 ins fr out) := by
  intro d
  induction d with
  | zero =>
    intro i c0 c1 ins fr out h1 h2 _ _ _ _ _
    refine Ev.step (f := fun _ => some out) (fun k => ?_) ?_
    · simp only [span_combine.l2]
      rw [if_neg (by omega)]
    · rw [List.drop_eq_nil_of_le (by omega)]
      exact Ev.now _
  | succ d ih =>
    intro i c0 c1 ins fr out h1 h2 g1 g2 g3 g4 h3
    have hi : i < E.length := by omega
    obtain ⟨hk, hb⟩ := hE E[i] (List.getElem_mem hi)
    have er := rd_E E i hi
    have w1 : wrap64 ((i : Int) + 1) = ((i + 1 : Nat) : Int) := by unfold wrap64; omega
    rw [List.drop_eq_getElem_cons hi]
    simp only [sweep]
    rw [nextAt_drop]
    -- what follows a bound, whichever list it is of
    have b0 : -((i + 1 : Nat) : Int) ≤ up c0 0 E[i] ∧ up c0 0 E[i] ≤ ((i + 1 : Nat) : Int) := by unfold up; split <;> omega
    have b1 : -((i + 1 : Nat) : Int) ≤ up c1 1 E[i] ∧ up c1 1 E[i] ≤ ((i + 1 : Nat) : Int) := by unfold up; split <;> omega
    have A := ih (i + 1) (up c0 0 E[i]) (up c1 1 E[i]) ins fr out (by omega) (by omega) b0.1 b0.2 b1.1 b1.2 (by omega)
    have B := ih (i + 1) (up c0 0 E[i]) (up c1 1 E[i]) (!ins) E[i].f0 (if ins = true then out ++ [⟨fr, E[i].f0⟩] else out) (by omega) (by omega) b0.1 b0.2 b1.1 b1.2 (by cases ins with | true => rw [if_pos rfl, List.length_append]; simp only [List.length_cons, List.length_nil]; omega | false => rw [if_neg (by simp)]; omega)
    have J3 : ∀ (z : Bool) (x0 x1 x2 : Int), x0 = E[i].f0 → Ev (fun k => span_combine.j3 pp k E out ins fr E (E.length : Int) (i : Int) z (up c0 0 E[i]) (up c1 1 E[i]) x0 x1 x2) (if z = true then sweep q (E.drop (i + 1)) (up c0 0 E[i]) (up c1 1 E[i]) ins fr out else sweep q (E.drop (i + 1)) (up c0 0 E[i]) (up c1 1 E[i]) (!ins) E[i].f0 (if ins = true then out ++ [⟨fr, E[i].f0⟩] else out)) := by
      intro z x0 x1 x2 hx
      subst hx
      cases z with
      | true =>
        refine Ev.step (f := fun k => span_combine.l2 pp k E out ins fr E (E.length : Int) ((i + 1 : Nat) : Int) (up c0 0 E[i]) (up c1 1 E[i])) (fun k => ?_) A
        simp only [span_combine.j3, if_true, w1]
      | false =>
        refine Ev.step (f := fun k => span_combine.l2 pp k E (if ins = true then out ++ [⟨fr, E[i].f0⟩] else out) (!ins) E[i].f0 E (E.length : Int) ((i + 1 : Nat) : Int) (up c0 0 E[i]) (up c1 1 E[i])) (fun k => ?_) B
        simp only [span_combine.j3, w1]
        rw [if_neg (by simp)]
        cases ins with
        | true => rw [if_pos rfl, if_pos (by omega), if_pos rfl]
        | false => rw [if_neg (by simp), if_neg (by simp)]
    have J4 : ∀ (z : Bool) (x0 x1 x2 : Int), x0 = E[i].f0 → Ev (fun k => span_combine.j4 pp k E out ins fr E (E.length : Int) (i : Int) z (up c0 0 E[i]) (up c1 1 E[i]) x0 x1 x2) (if z = true then sweep q (E.drop (i + 1)) (up c0 0 E[i]) (up c1 1 E[i]) ins fr out else sweep q (E.drop (i + 1)) (up c0 0 E[i]) (up c1 1 E[i]) (!ins) E[i].f0 (if ins = true then out ++ [⟨fr, E[i].f0⟩] else out)) := by
      intro z x0 x1 x2 hx
      subst hx
      cases z with
      | true =>
        refine Ev.step (f := fun k => span_combine.l2 pp k E out ins fr E (E.length : Int) ((i + 1 : Nat) : Int) (up c0 0 E[i]) (up c1 1 E[i])) (fun k => ?_) A
        simp only [span_combine.j4, if_true, w1]
      | false =>
        refine Ev.step (f := fun k => span_combine.l2 pp k E (if ins = true then out ++ [⟨fr, E[i].f0⟩] else out) (!ins) E[i].f0 E (E.length : Int) ((i + 1 : Nat) : Int) (up c0 0 E[i]) (up c1 1 E[i])) (fun k => ?_) B
        simp only [span_combine.j4, w1]
        rw [if_neg (by simp)]
        cases ins with
        | true => rw [if_pos rfl, if_pos (by omega), if_pos rfl]
        | false => rw [if_neg (by simp), if_neg (by simp)]
    clear A B
    have hq : pp (up c0 0 E[i]) (up c1 1 E[i]) = some (q (up c0 0 E[i]) (up c1 1 E[i])) := hpp _ _ (by omega) (by omega) (by omega) (by omega)
    rcases hk with hk | hk
    · have e0 : wrap64 (c0 + E[i].f2) = up c0 0 E[i] := by
        unfold up
        rw [if_pos hk]
        unfold wrap64
        omega
      have e1 : up c1 1 E[i] = c1 := by unfold up; rw [if_neg (by omega)]
      have S : ∀ k, span_combine.l2 pp (k + 1) E out ins fr E (E.length : Int) (i : Int) c0 c1 = span_combine.j3 pp k E out ins fr E (E.length : Int) (i : Int) ((if h : i + 1 < E.length then (E[i + 1].f0 == E[i].f0) else false) || q (up c0 0 E[i]) (up c1 1 E[i]) == ins) (up c0 0 E[i]) (up c1 1 E[i]) E[i].f0 E[i].f1 E[i].f2 := by
        intro k
        simp only [span_combine.l2, er, w1, e0]
        rw [if_pos (by omega), if_pos (by omega), if_pos (by omega), if_pos hk]
        rw [e1] at hq ⊢
        by_cases h : i + 1 < E.length
        · rw [if_pos (by omega), if_pos (by omega), rd_E E (i + 1) h, dif_pos h]
          by_cases h5 : E[i + 1].f0 = E[i].f0
          · rw [if_pos h5, h5]
            simp
          · have h6 : (E[i + 1].f0 == E[i].f0) = false := by rw [beq_eq_false_iff_ne]; exact h5
            rw [if_neg h5, hq, h6]
            simp only [Option.bind_some, Bool.false_or]
        · rw [if_neg (by omega), dif_neg h, hq]
          simp only [Option.bind_some, Bool.false_or]
      exact Ev.step S (J3 _ _ _ _ rfl)
    · have e0 : wrap64 (c1 + E[i].f2) = up c1 1 E[i] := by
        unfold up
        rw [if_pos hk]
        unfold wrap64
        omega
      have e1 : up c0 0 E[i] = c0 := by unfold up; rw [if_neg (by omega)]
      have S : ∀ k, span_combine.l2 pp (k + 1) E out ins fr E (E.length : Int) (i : Int) c0 c1 = span_combine.j4 pp k E out ins fr E (E.length : Int) (i : Int) ((if h : i + 1 < E.length then (E[i + 1].f0 == E[i].f0) else false) || q (up c0 0 E[i]) (up c1 1 E[i]) == ins) (up c0 0 E[i]) (up c1 1 E[i]) E[i].f0 E[i].f1 E[i].f2 := by
        intro k
        simp only [span_combine.l2, er, w1, e0]
        rw [if_pos (by omega), if_pos (by omega), if_pos (by omega), if_neg (by omega), if_pos hk]
        rw [e1] at hq ⊢
        by_cases h : i + 1 < E.length
        · rw [if_pos (by omega), if_pos (by omega), rd_E E (i + 1) h, dif_pos h]
          by_cases h5 : E[i + 1].f0 = E[i].f0
          · rw [if_pos h5, h5]
            simp
          · have h6 : (E[i + 1].f0 == E[i].f0) = false := by rw [beq_eq_false_iff_ne]; exact h5
            rw [if_neg h5, hq, h6]
            simp only [Option.bind_some, Bool.false_or]
        · rw [if_neg (by omega), dif_neg h, hq]
          simp only [Option.bind_some, Bool.false_or]
      exact Ev.step S (J4 _ _ _ _ rfl)
end Go.Proofs.Ytgplnfhpeeifjaa.Q

namespace Go.Proofs.Ytgplnfhpeeifjaa.Q
open Go.RowKit Go.Proofs.YtgplnfhpeeifjaaW.PrintWords Go.Proofs.YtgplnfhpeeifjaaW.PrintLast Go.Proofs.YtgplnfhpeeifjaaW.PrintMore
set_option linter.unusedVariables false
set_option linter.unusedSimpArgs false
def tot (k : Int) (E : List S54) : Int := (E.map fun e => if e.f1 = k then e.f2 else 0).sum
theorem tot_append (k : Int) (E F : List S54) : tot k (E ++ F) = tot k E + tot k F := by simp [tot]
theorem tot_one (k : Int) (E : List S54) (e : S54) : tot k (E ++ [e]) = up (tot k E) k e := by
  rw [tot_append]
  simp only [tot, up, List.map_cons, List.map_nil, List.sum_cons, List.sum_nil]
  split <;> omega
theorem sumBy_all (k n : Int) (E : List S54) (h : ∀ e ∈ E, e.f0 ≤ n) : sumBy k n E = tot k E := by
  induction E with
  | nil => rfl
  | cons e E ih =>
    have h1 := h e List.mem_cons_self
    have h2 := ih (fun x hx => h x (List.mem_cons_of_mem _ hx))
    simp only [sumBy, tot, List.map_cons, List.sum_cons] at h2 ⊢
    rw [h2]
    by_cases q : e.f1 = k
    · rw [if_pos ⟨q, h1⟩, if_pos q]
    · rw [if_neg (fun z => q z.1), if_neg q]
theorem sumBy_none (k n : Int) (E : List S54) (h : ∀ e ∈ E, n < e.f0) : sumBy k n E = 0 := by
  induction E with
  | nil => rfl
  | cons e E ih =>
    have h1 := h e List.mem_cons_self
    have h2 := ih (fun x hx => h x (List.mem_cons_of_mem _ hx))
    simp only [sumBy, List.map_cons, List.sum_cons] at h2 ⊢
    rw [h2, if_neg (by omega)]
    rfl
def NF (l : List S33) : Prop := l.Pairwise (fun s t => s.f1 < t.f0) ∧ ∀ s ∈ l, isP s = true
def hd (rest : List S54) (P : S54 → Prop) : Prop := match rest with | [] => True | e :: _ => P e
def Sorted (E : List S54) : Prop := E.Pairwise (fun a b => a.f0 ≤ b.f0)
theorem mem_cons (s : S33) (l : List S33) (n : Int) : mem (s :: l) n = (inS n s || mem l n) := by simp [mem]
theorem mem_append (l m : List S33) (n : Int) : mem (l ++ m) n = (mem l n || mem m n) := by simp [mem]
theorem mem_far (l : List S33) (n : Int) (h : ∀ s ∈ l, s.f1 ≤ n) : mem l n = false := by
  by_cases q : mem l n = true
  · obtain ⟨s, hs, hn⟩ := List.any_eq_true.1 q
    have := (inS_iff n s).1 hn
    have := h s hs
    omega
  · simpa using q
theorem mem_near (l : List S33) (n : Int) (h : ∀ s ∈ l, n < s.f0) : mem l n = false := by
  by_cases q : mem l n = true
  · obtain ⟨s, hs, hn⟩ := List.any_eq_true.1 q
    have := (inS_iff n s).1 hn
    have := h s hs
    omega
  · simpa using q
structure Inv (q : Int → Int → Bool) (E D rest : List S54) (ins : Bool) (fr : Int) (out : List S33) : Prop where
  set : ∀ n, hd rest (fun e => n < e.f0) → q (sumBy 0 n E) (sumBy 1 n E) = (mem out n || (ins && decide (fr ≤ n)))
  nf : NF out
  lt : ∀ s ∈ out, (ins = true → s.f1 < fr) ∧ hd rest (fun e => s.f1 < e.f0)
  fr_ : ins = true → -1152921504606846976 ≤ fr ∧ hd rest (fun e => fr < e.f0)
  now : (∀ d ∈ D, hd rest (fun e => d.f0 < e.f0)) → D ≠ [] → ins = q (tot 0 D) (tot 1 D)
set_option maxHeartbeats 1000000 in
theorem sweep_spec (q : Int → Int → Bool) (E : List S54) (hS : Sorted E) (hB : ∀ e ∈ E, -1152921504606846976 ≤ e.f0 ∧ e.f0 ≤ 1152921504606846976) :
    ∀ (rest D : List S54) (ins : Bool) (fr : Int) (out : List S33), E = D ++ rest → Inv q E D rest ins fr out →
      ∃ ins' fr' , Inv q E E [] ins' fr' (sweep q rest (tot 0 D) (tot 1 D) ins fr out) := by
  intro rest
  induction rest with
  | nil =>
    intro D ins fr out he hI
    rw [List.append_nil] at he
    subst he
    exact ⟨ins, fr, hI⟩
  | cons e rest ih =>
    intro D ins fr out he hI
    have he2 : E = (D ++ [e]) ++ rest := by rw [he, List.append_assoc]; rfl
    have hS2 := hS
    rw [he] at hS2
    have hS2 := List.pairwise_append.1 hS2
    obtain ⟨_, hR, hDR⟩ := hS2
    have hR2 := List.pairwise_cons.1 hR
    have hDe : ∀ d ∈ D, d.f0 ≤ e.f0 := fun d hd_ => hDR d hd_ e List.mem_cons_self
    have hbe := hB e (by rw [he]; simp)
    simp only [sweep]
    rw [← tot_one, ← tot_one]
    by_cases hn : nextAt rest e.f0 = true
    · rw [hn, Bool.true_or, if_pos rfl]
      refine ih (D ++ [e]) ins fr out he2 ?_
      cases rest with
      | nil => simp [nextAt] at hn
      | cons e' r' =>
        have h0 : e'.f0 = e.f0 := by simpa [nextAt] using hn
        refine ⟨fun n hh => hI.set n ?_, hI.nf, fun s hs => ⟨(hI.lt s hs).1, ?_⟩, fun h => ⟨(hI.fr_ h).1, ?_⟩, fun h _ => ?_⟩
        · simp only [hd] at hh ⊢; omega
        · have := (hI.lt s hs).2; simp only [hd] at this ⊢; omega
        · have := (hI.fr_ h).2; simp only [hd] at this ⊢; omega
        · have := h e (by simp)
          simp only [hd] at this
          omega
    · have hn0 : nextAt rest e.f0 = false := by simpa using hn
      rw [hn0, Bool.false_or]
      -- all that follows begins behind e
      have hlate : ∀ x ∈ rest, e.f0 < x.f0 := by
        intro x hx
        cases rest with
        | nil => simp at hx
        | cons e' r' =>
          have h0 : e'.f0 ≠ e.f0 := by simpa [nextAt] using hn0
          have h1 := hR2.1 e' List.mem_cons_self
          have h2 : e'.f0 ≤ x.f0 := by
            rcases List.mem_cons.1 hx with rfl | hx
            · exact Int.le_refl _
            · exact (List.pairwise_cons.1 hR2.2).1 x hx
          omega
      have hhd : hd rest (fun x => e.f0 < x.f0) := by
        cases rest with
        | nil => trivial
        | cons e' r' => exact hlate e' List.mem_cons_self
      have hval : ∀ n, e.f0 ≤ n → hd rest (fun x => n < x.f0) → q (sumBy 0 n E) (sumBy 1 n E) = q (tot 0 (D ++ [e])) (tot 1 (D ++ [e])) := by
        intro n h1 h2
        have h3 : ∀ x ∈ rest, n < x.f0 := by
          intro x hx
          cases rest with
          | nil => simp at hx
          | cons e' r' =>
            rcases List.mem_cons.1 hx with rfl | hx'
            · exact h2
            · have := (List.pairwise_cons.1 hR2.2).1 x hx'
              simp only [hd] at h2
              omega
        have h4 : ∀ k, sumBy k n E = tot k (D ++ [e]) := by
          intro k
          rw [he2, sumBy_append, sumBy_none k n rest h3, sumBy_all k n (D ++ [e])]
          · omega
          · intro x hx
            rcases List.mem_append.1 hx with hx | hx
            · have := hDe x hx; omega
            · simp at hx; subst hx; exact h1
        rw [h4 0, h4 1]
      generalize hv : q (tot 0 (D ++ [e])) (tot 1 (D ++ [e])) = v at hval
      have hltout : ∀ s ∈ out, s.f1 < e.f0 := fun s hs => (hI.lt s hs).2
      by_cases hc : v = ins
      · subst hc
        rw [if_pos (by simp)]
        refine ih (D ++ [e]) v fr out he2 ⟨fun n hh => ?_, hI.nf, fun s hs => ⟨(hI.lt s hs).1, ?_⟩, fun h => ⟨(hI.fr_ h).1, ?_⟩, fun _ _ => hv.symm⟩
        · by_cases h1 : n < e.f0
          · exact hI.set n h1
          · rw [hval n (by omega) hh, mem_far out n (fun s hs => by have := hltout s hs; omega), Bool.false_or]
            cases v with
            | false => rfl
            | true =>
              have := (hI.fr_ rfl).2
              simp only [hd] at this
              simp only [Bool.true_and]
              rw [decide_eq_true (by omega)]
        · have := hltout s hs
          cases rest with
          | nil => trivial
          | cons e' r' => simp only [hd] at hhd ⊢; omega
        · have := (hI.fr_ h).2
          cases rest with
          | nil => trivial
          | cons e' r' => simp only [hd] at this hhd ⊢; omega
      · rw [if_neg (by simpa using hc)]
        cases ins with
        | true =>
          have hv0 : v = false := by simpa using hc
          subst hv0
          have hf := hI.fr_ rfl
          have hf2 := hf.2
          simp only [hd] at hf2
          have hnew : isP (⟨fr, e.f0⟩ : S33) = true := (isP_iff _).2 ⟨hf.1, hbe.2, hf2⟩
          rw [if_pos rfl]
          refine ih (D ++ [e]) false e.f0 _ he2 ⟨fun n hh => ?_, ⟨?_, ?_⟩, fun s hs => ⟨fun h => by simp at h, ?_⟩, fun h => by simp at h, fun _ _ => hv.symm⟩
          · rw [mem_append, Bool.false_and, Bool.or_false]
            have e1 : mem [(⟨fr, e.f0⟩ : S33)] n = (decide (fr ≤ n) && decide (n < e.f0)) := by
              have := inS_iff n (⟨fr, e.f0⟩ : S33)
              rw [Bool.eq_iff_iff]
              simp only [mem, List.any_cons, List.any_nil, Bool.or_false, Bool.and_eq_true, decide_eq_true_eq]
              rw [this]
              exact ⟨fun h => h.2, fun h => ⟨hnew, h⟩⟩
            rw [e1]
            by_cases h1 : n < e.f0
            · rw [hI.set n h1, decide_eq_true h1, Bool.and_true, Bool.true_and]
            · rw [hval n (by omega) hh, mem_far out n (fun s hs => by have := hltout s hs; omega), decide_eq_false h1]
              simp
          · refine List.pairwise_append.2 ⟨hI.nf.1, List.pairwise_singleton _ _, fun s hs t ht => ?_⟩
            simp at ht
            subst ht
            exact (hI.lt s hs).1 rfl
          · intro s hs
            rcases List.mem_append.1 hs with hs | hs
            · exact hI.nf.2 s hs
            · simp at hs
              subst hs
              exact hnew
          · rcases List.mem_append.1 hs with hs | hs
            · have := hltout s hs
              cases rest with
              | nil => trivial
              | cons e' r' => simp only [hd] at hhd ⊢; omega
            · simp at hs
              subst hs
              exact hhd
        | false =>
          have hv0 : v = true := by simpa using hc
          subst hv0
          rw [if_neg (by simp)]
          refine ih (D ++ [e]) true e.f0 out he2 ⟨fun n hh => ?_, hI.nf, fun s hs => ⟨fun _ => hltout s hs, ?_⟩, fun _ => ⟨hbe.1, hhd⟩, fun _ _ => hv.symm⟩
          · by_cases h1 : n < e.f0
            · rw [hI.set n h1, Bool.false_and, Bool.or_false, decide_eq_false (show ¬ e.f0 ≤ n by omega)]
              simp
            · rw [hval n (by omega) hh, decide_eq_true (show e.f0 ≤ n by omega)]
              simp
          · have := hltout s hs
            cases rest with
            | nil => trivial
            | cons e' r' => simp only [hd] at hhd ⊢; omega
theorem sweep_len (q : Int → Int → Bool) : ∀ (rest : List S54) (c0 c1 : Int) (ins : Bool) (fr : Int) (out : List S33), (sweep q rest c0 c1 ins fr out).length ≤ out.length + rest.length := by
  intro rest
  induction rest with
  | nil => intro c0 c1 ins fr out; simp [sweep]
  | cons e rest ih =>
    intro c0 c1 ins fr out
    simp only [sweep]
    split
    · have := ih (up c0 0 e) (up c1 1 e) ins fr out
      rw [List.length_cons]
      omega
    · have := ih (up c0 0 e) (up c1 1 e) (!ins) e.f0 (if ins = true then out ++ [⟨fr, e.f0⟩] else out)
      have h2 : (if ins = true then out ++ [(⟨fr, e.f0⟩ : S33)] else out).length ≤ out.length + 1 := by
        split
        · rw [List.length_append]; simp
        · omega
      rw [List.length_cons]
      omega
theorem rd_S (l : List S33) (i : Nat) (h : i < l.length) : rd_T33 l (i : Int) = l[i] := by simp [rd_T33, List.getD_eq_getElem?_getD, List.getElem?_eq_getElem h]
theorem proper_f (s : S33) : span_proper.f s.f0 s.f1 = some (isP s) := by rw [has_proper]; rfl
theorem l1_edges (pp : Int → Int → Option Bool) (k0 : Int) (x16 : List (List S33)) (x17 x18 : Int) (l : List S33) (hl : l.length ≤ 100000) {r : List S33} :
    ∀ (d i : Nat) (x5 : List S54), i ≤ l.length → l.length - i = d → x5.length + 2 * d ≤ 1000000 →
      Ev (fun k => span_combine.l0 pp k (x5 ++ edgs k0 (l.drop i)) x16 x17 (wrap64 (x18 + 1))) r → Ev (fun k => span_combine.l1 pp k x5 k0 x16 x17 x18 l (l.length : Int) (i : Int)) r := by
  intro d
  induction d with
  | zero =>
    intro i x5 h1 h2 h3 h
    have hi : i = l.length := by omega
    subst hi
    rw [List.drop_length] at h
    refine Ev.step (fun k => ?_) h
    simp only [span_combine.l1]
    rw [if_neg (by omega)]
    simp [edgs]
  | succ d ih =>
    intro i x5 h1 h2 h3 h
    have hi : i < l.length := by omega
    have w1 : wrap64 ((i : Int) + 1) = ((i + 1 : Nat) : Int) := by unfold wrap64; omega
    have er := rd_S l i hi
    rw [List.drop_eq_getElem_cons hi] at h
    have e1 : edgs k0 (l[i] :: l.drop (i + 1)) = (if isP l[i] = true then [⟨l[i].f0, k0, 1⟩, ⟨l[i].f1, k0, -1⟩] else []) ++ edgs k0 (l.drop (i + 1)) := by unfold edgs; rw [List.flatMap_cons]
    rw [e1, ← List.append_assoc] at h
    have A := ih (i + 1) (x5 ++ (if isP l[i] = true then [⟨l[i].f0, k0, 1⟩, ⟨l[i].f1, k0, -1⟩] else [])) (by omega) (by omega) (by rw [List.length_append]; split <;> simp only [List.length_cons, List.length_nil] <;> omega) h
    refine Ev.step (fun k => ?_) A
    simp only [span_combine.l1, er, w1]
    rw [if_pos (by omega), if_pos (by omega), if_pos (by omega), proper_f]
    simp only [Option.bind_some]
    by_cases hp : isP l[i] = true
    · rw [if_pos hp, if_pos hp, if_pos (by simp only [List.length_cons, List.length_nil]; omega)]
    · rw [if_neg hp, if_neg hp, List.append_nil]
theorem combine_spec (pp : Int → Int → Option Bool) (q : Int → Int → Bool) (hpp : ∀ a b : Int, -1000000000 ≤ a → a ≤ 1000000000 → -1000000000 ≤ b → b ≤ 1000000000 → pp a b = some (q a b)) (h00 : q 0 0 = false)
    (a b : List S33) (ha : a.length ≤ 100000) (hb : b.length ≤ 100000) :
    ∃ r, Ev (fun k => span_combine.f pp k [a, b]) r ∧ NF r ∧ (∀ n, mem r n = q (cnt a n) (cnt b n)) ∧ r.length ≤ 2 * a.length + 2 * b.length := by
  have la := edgs_len 0 a
  have lb := edgs_len 1 b
  have hp := (sortd_size ord_swo (edgs 0 a ++ edgs 1 b))
  generalize hE : sortd ordCmp (edgs 0 a ++ edgs 1 b) = E at hp
  obtain ⟨hperm, hsort⟩ := hp
  have hlen : E.length = (edgs 0 a).length + (edgs 1 b).length := by rw [hperm.length_eq, List.length_append]
  have hmem : ∀ e ∈ E, (e.f1 = 0 ∨ e.f1 = 1) ∧ (e.f2 = 1 ∨ e.f2 = -1) ∧ -1152921504606846976 ≤ e.f0 ∧ e.f0 ≤ 1152921504606846976 := by
    intro e he
    rcases List.mem_append.1 (hperm.mem_iff.1 he) with h | h
    · have := edgs_mem h
      exact ⟨.inl this.1, this.2⟩
    · have := edgs_mem h
      exact ⟨.inr this.1, this.2⟩
  have hokE : okE E := fun e he => ⟨(hmem e he).1, (hmem e he).2.1⟩
  have hSorted : Sorted E := by
    unfold Sorted
    rw [List.pairwise_iff_getElem]
    intro i j hi hj hij
    have := hsort i j hij (by rw [← hperm.length_eq]; exact hj)
    rw [getElem!_pos E i hi, getElem!_pos E j hj, ord_lt] at this
    simpa using this
  have hsum : ∀ n, sumBy 0 n E = cnt a n ∧ sumBy 1 n E = cnt b n := by
    intro n
    constructor
    · rw [sumBy_perm 0 n hperm, sumBy_append, sumBy_edgs, sumBy_other 1 0 n (by omega)]; omega
    · rw [sumBy_perm 1 n hperm, sumBy_append, sumBy_edgs, sumBy_other 0 1 n (by omega)]; omega
  have hinit : Inv q E [] E false 0 [] := by
    refine ⟨fun n hh => ?_, ⟨List.Pairwise.nil, by simp⟩, by simp, by simp, by simp⟩
    have : ∀ x ∈ E, n < x.f0 := by
      intro x hx
      cases E with
      | nil => simp at hx
      | cons e r =>
        rcases List.mem_cons.1 hx with rfl | hx'
        · exact hh
        · have := (List.pairwise_cons.1 hSorted).1 x hx'
          simp only [hd] at hh
          omega
    rw [sumBy_none 0 n E this, sumBy_none 1 n E this, h00]
    rfl
  obtain ⟨ins', fr', hI⟩ := sweep_spec q E hSorted (fun e he => (hmem e he).2.2) E [] false 0 [] rfl hinit
  have t0 : tot 0 ([] : List S54) = 0 := rfl
  have t1 : tot 1 ([] : List S54) = 0 := rfl
  rw [t0, t1] at hI
  have hins : ins' = false ∨ E = [] := by
    by_cases hE0 : E = []
    · exact .inr hE0
    · refine .inl ?_
      have h := hI.now (fun _ _ => trivial) hE0
      have z : ∀ k, tot k E = sumBy k 1152921504606846976 E := fun k => (sumBy_all k _ E (fun e he => (hmem e he).2.2.2)).symm
      have cz : ∀ l : List S33, cnt l 1152921504606846976 = 0 := by
        intro l
        unfold cnt
        rw [List.filter_eq_nil_iff.2]
        · rfl
        · intro s hs hn
          have := (inS_iff _ s).1 hn
          have := (isP_iff s).1 this.1
          omega
      rw [z 0, z 1, (hsum _).1, (hsum _).2, cz a, cz b, h00] at h
      exact h
  have hset : ∀ n, mem (sweep q E 0 0 false 0 []) n = q (cnt a n) (cnt b n) := by
    intro n
    have h := hI.set n trivial
    rw [(hsum n).1, (hsum n).2] at h
    rcases hins with h0 | h0
    · rw [h, h0, Bool.false_and, Bool.or_false]
    · subst h0
      have := hsum n
      have e0 : cnt a n = 0 := this.1.symm
      have e1 : cnt b n = 0 := this.2.symm
      rw [e0, e1, h00]
      rfl
  refine ⟨sweep q E 0 0 false 0 [], ?_, hI.nf, hset, ?_⟩
  · have hl2 := l2_sweep pp q hpp E hokE (by omega) (E.length - 0) 0 0 0 false 0 [] (Nat.zero_le _) rfl (by omega) (by omega) (by omega) (by omega) (by simp)
    have hl0 : Ev (fun k => span_combine.l0 pp k (edgs 0 a ++ edgs 1 b) [a, b] 2 2) (sweep q E 0 0 false 0 []) := by
      refine Ev.step (fun k => ?_) hl2
      simp only [span_combine.l0]
      rw [if_neg (by omega)]
      unfold span_edge__span_combine_1.f
      rw [if_pos (by rw [List.length_append]; omega), hE]
      rfl
    have hb1 := l1_edges pp 1 [a, b] 2 1 b hb (b.length - 0) 0 (edgs 0 a) (Nat.zero_le _) rfl (by omega) (r := sweep q E 0 0 false 0 []) (by rw [List.drop_zero, show wrap64 (1 + 1) = 2 by unfold wrap64; omega]; exact hl0)
    have hl1 : Ev (fun k => span_combine.l0 pp k (edgs 0 a) [a, b] 2 1) (sweep q E 0 0 false 0 []) := by
      refine Ev.step (fun k => ?_) hb1
      simp only [span_combine.l0]
      rw [if_pos (by omega), if_pos (by omega), if_pos (by simp)]
      rfl
    have ha1 := l1_edges pp 0 [a, b] 2 0 a ha (a.length - 0) 0 [] (Nat.zero_le _) rfl (by simp; omega) (r := sweep q E 0 0 false 0 []) (by rw [List.drop_zero, List.nil_append, show wrap64 (0 + 1) = 1 by unfold wrap64; omega]; exact hl1)
    refine Ev.step (g := fun k => span_combine.f pp k [a, b]) (fun k => ?_) ha1
    unfold span_combine.f
    simp only [span_combine.l0, List.length_cons, List.length_nil]
    rw [if_pos (by omega), if_pos (by omega), if_pos (by omega)]
    rfl
  · have := sweep_len q E 0 0 false 0 []
    rw [List.length_nil] at this
    omega
end Go.Proofs.Ytgplnfhpeeifjaa.Q

namespace Go.Proofs.Ytgplnfhpeeifjaa.Q
open Go.RowKit Go.Proofs.YtgplnfhpeeifjaaW.PrintWords Go.Proofs.YtgplnfhpeeifjaaW.PrintLast Go.Proofs.YtgplnfhpeeifjaaW.PrintMore
set_option linter.unusedVariables false
set_option linter.unusedSimpArgs false
instance : DecidableEq S33 := fun a b => decidable_of_iff (a.f0 = b.f0 ∧ a.f1 = b.f1) (by cases a; cases b; simp)
theorem nf_first {s : S33} {l : List S33} (h : NF (s :: l)) (n : Int) (hn : mem (s :: l) n = true) : s.f0 ≤ n := by
  obtain ⟨t, ht, hi⟩ := List.any_eq_true.1 hn
  have hi := (inS_iff n t).1 hi
  rcases List.mem_cons.1 ht with rfl | ht
  · exact hi.2.1
  · have h1 := (List.pairwise_cons.1 h.1).1 t ht
    have h2 := (isP_iff s).1 (h.2 s List.mem_cons_self)
    omega
theorem nf_tail {s : S33} {l : List S33} (h : NF (s :: l)) : NF l := ⟨(List.pairwise_cons.1 h.1).2, fun t ht => h.2 t (List.mem_cons_of_mem _ ht)⟩
theorem nf_rest {s : S33} {l : List S33} (h : NF (s :: l)) (n : Int) : mem l n = (mem (s :: l) n && decide (s.f1 < n)) := by
  have hp := (isP_iff s).1 (h.2 s List.mem_cons_self)
  rw [mem_cons]
  by_cases h1 : s.f1 < n
  · have : inS n s = false := by
      by_cases q : inS n s = true
      · have := (inS_iff n s).1 q; omega
      · simpa using q
    rw [this, decide_eq_true h1]
    simp
  · rw [decide_eq_false h1, Bool.and_false]
    refine mem_near l n (fun t ht => ?_)
    have := (List.pairwise_cons.1 h.1).1 t ht
    omega
theorem nf_unique : ∀ (l m : List S33), NF l → NF m → (∀ n, mem l n = mem m n) → l = m := by
  intro l
  induction l with
  | nil =>
    intro m _ hm h
    cases m with
    | nil => rfl
    | cons t m =>
      have ht := (isP_iff t).1 (hm.2 t List.mem_cons_self)
      have := h t.f0
      rw [mem_cons, (inS_iff t.f0 t).2 ⟨hm.2 t List.mem_cons_self, by omega, by omega⟩] at this
      simp [mem] at this
  | cons s l ih =>
    intro m hl hm h
    have hs := (isP_iff s).1 (hl.2 s List.mem_cons_self)
    have is : mem (s :: l) s.f0 = true := by rw [mem_cons, (inS_iff s.f0 s).2 ⟨hl.2 s List.mem_cons_self, by omega, by omega⟩]; rfl
    cases m with
    | nil => rw [h] at is; simp [mem] at is
    | cons t m =>
      have ht := (isP_iff t).1 (hm.2 t List.mem_cons_self)
      have it : mem (t :: m) t.f0 = true := by rw [mem_cons, (inS_iff t.f0 t).2 ⟨hm.2 t List.mem_cons_self, by omega, by omega⟩]; rfl
      have e0 : s.f0 = t.f0 := by
        have h1 := nf_first hl t.f0 (by rw [h]; exact it)
        have h2 := nf_first hm s.f0 (by rw [← h]; exact is)
        omega
      have out : ∀ {a : S33} {k : List S33}, NF (a :: k) → mem (a :: k) a.f1 = false := by
        intro a k hk
        rw [mem_cons]
        have h1 : inS a.f1 a = false := by
          by_cases q : inS a.f1 a = true
          · have := (inS_iff a.f1 a).1 q; omega
          · simpa using q
        rw [h1, mem_near k a.f1 (fun x hx => (List.pairwise_cons.1 hk.1).1 x hx)]
        rfl
      have e1 : s.f1 = t.f1 := by
        rcases Int.lt_trichotomy s.f1 t.f1 with h1 | h1 | h1
        · have := out hl
          rw [h, mem_cons, (inS_iff s.f1 t).2 ⟨hm.2 t List.mem_cons_self, by omega, by omega⟩] at this
          simp at this
        · exact h1
        · have := out hm
          rw [← h, mem_cons, (inS_iff t.f1 s).2 ⟨hl.2 s List.mem_cons_self, by omega, by omega⟩] at this
          simp at this
      have e : s = t := by cases s; cases t; simp at e0 e1; simp [e0, e1]
      subst e
      rw [ih m (nf_tail hl) (nf_tail hm) (fun n => by rw [nf_rest hl, nf_rest hm, h])]
abbrev small (l : List S33) : Prop := l.length ≤ 100000
theorem union_spec (a b : List S33) (ha : small a) (hb : small b) : ∃ r, Ev (fun k => span_Union.f k a b) r ∧ NF r ∧ (∀ n, mem r n = (mem a n || mem b n)) ∧ r.length ≤ 2 * a.length + 2 * b.length := by
  obtain ⟨r, h1, h2, h3, h4⟩ := combine_spec span_Union_1.f (fun x y => decide (wrap64 (x + y) > 0)) (fun x y _ _ _ _ => rfl) (by unfold wrap64; decide) a b ha hb
  refine ⟨r, ?_, h2, fun n => ?_, h4⟩
  · refine Ev.congr (f := fun k => (span_combine.f span_Union_1.f k [a, b]).bind some) (fun k => ?_) (Ev.bind h1 (Ev.now _))
    rfl
  · rw [h3]
    have x0 := cnt_nonneg a n
    have y0 := cnt_nonneg b n
    have x1 := cnt_le a n
    have y1 := cnt_le b n
    have w : wrap64 (cnt a n + cnt b n) = cnt a n + cnt b n := by unfold wrap64; unfold small at ha hb; omega
    rw [w, ← cnt_pos, ← cnt_pos]
    by_cases p : cnt a n > 0 <;> by_cases q : cnt b n > 0 <;> simp [p, q] <;> omega
theorem meet_spec (a b : List S33) (ha : small a) (hb : small b) : ∃ r, Ev (fun k => span_Meet.f k a b) r ∧ NF r ∧ (∀ n, mem r n = (mem a n && mem b n)) ∧ r.length ≤ 2 * a.length + 2 * b.length := by
  obtain ⟨r, h1, h2, h3, h4⟩ := combine_spec span_Meet_1.f (fun x y => decide (x > 0) && decide (y > 0)) (fun x y _ _ _ _ => by unfold span_Meet_1.f; by_cases h : x > 0 <;> simp [h]) (by decide) a b ha hb
  refine ⟨r, ?_, h2, fun n => ?_, h4⟩
  · exact Ev.congr (f := fun k => (span_combine.f span_Meet_1.f k [a, b]).bind some) (fun k => rfl) (Ev.bind h1 (Ev.now _))
  · rw [h3, cnt_pos, cnt_pos]
theorem minus_spec (a b : List S33) (ha : small a) (hb : small b) : ∃ r, Ev (fun k => span_Minus.f k a b) r ∧ NF r ∧ (∀ n, mem r n = (mem a n && !mem b n)) ∧ r.length ≤ 2 * a.length + 2 * b.length := by
  obtain ⟨r, h1, h2, h3, h4⟩ := combine_spec span_Minus_1.f (fun x y => decide (x > 0) && (y == 0)) (fun x y _ _ _ _ => by unfold span_Minus_1.f; by_cases h : x > 0 <;> simp [h]) (by decide) a b ha hb
  refine ⟨r, ?_, h2, fun n => ?_, h4⟩
  · exact Ev.congr (f := fun k => (span_combine.f span_Minus_1.f k [a, b]).bind some) (fun k => rfl) (Ev.bind h1 (Ev.now _))
  · rw [h3, cnt_pos, cnt_zero]
theorem normal_spec (a : List S33) (ha : small a) : ∃ r, Ev (fun k => span_Normal.f k a) r ∧ NF r ∧ (∀ n, mem r n = mem a n) ∧ r.length ≤ 2 * a.length := by
  obtain ⟨r, h1, h2, h3, h4⟩ := union_spec a [] ha (by simp [small])
  refine ⟨r, Ev.congr (f := fun k => (span_Union.f k a []).bind some) (fun k => rfl) (Ev.bind h1 (Ev.now _)), h2, fun n => ?_, by simpa using h4⟩
  rw [h3]
  simp [mem]
theorem has_spec (l : List S33) (n : Int) (hl : small l) : span_Has.f l n = some (mem l n) := by
  unfold span_Has.f
  rw [if_pos (by unfold small at hl; omega)]
  rfl
def size (l : List S33) : Int := (l.map fun s => s.f1 - s.f0).sum
theorem nf_size {l : List S33} (h : NF l) (lo : Int) (hlo : ∀ s ∈ l, lo ≤ s.f0) (hlo2 : lo ≤ 1152921504606846976) : 0 ≤ size l ∧ size l ≤ 1152921504606846976 - lo := by
  induction l generalizing lo with
  | nil => simp [size]; omega
  | cons s l ih =>
    have hp := (isP_iff s).1 (h.2 s List.mem_cons_self)
    have h0 := hlo s List.mem_cons_self
    have := ih (nf_tail h) s.f1 (fun t ht => by have := (List.pairwise_cons.1 h.1).1 t ht; omega) (by omega)
    simp only [size, List.map_cons, List.sum_cons] at this ⊢
    omega
theorem nf_low {l : List S33} (h : NF l) : ∀ s ∈ l, -1152921504606846976 ≤ s.f0 := fun s hs => ((isP_iff s).1 (h.2 s hs)).1
theorem nf_size' {l : List S33} (h : NF l) : 0 ≤ size l ∧ size l ≤ 2305843009213693952 := by
  have := nf_size h (-1152921504606846976) (nf_low h) (by omega)
  omega
theorem size_drop (l : List S33) (i : Nat) (h : i < l.length) : size (l.drop i) = l[i].f1 - l[i].f0 + size (l.drop (i + 1)) := by
  rw [List.drop_eq_getElem_cons h]
  unfold size
  rw [List.map_cons, List.sum_cons]
theorem nf_drop {l : List S33} (h : NF l) (i : Nat) : NF (l.drop i) := ⟨h.1.sublist (List.drop_sublist _ _), fun s hs => h.2 s (List.mem_of_mem_drop hs)⟩
theorem size_loop (r : List S33) (hr : NF r) (hl : r.length ≤ 100000000) : ∀ (d i : Nat) (x : Int), i ≤ r.length → r.length - i = d → x + size (r.drop i) ≤ 2305843009213693952 → 0 ≤ x → Ev (fun k => span_Size.l0 k x r (r.length : Int) (i : Int)) (x + size (r.drop i)) := by
  intro d
  induction d with
  | zero =>
    intro i x h1 h2 h3 h4
    refine Ev.step (f := fun _ => some x) (fun k => ?_) ?_
    · simp only [span_Size.l0]
      rw [if_neg (by omega)]
    · rw [List.drop_eq_nil_of_le (by omega)]
      have : x + size [] = x := by simp [size]
      rw [this]
      exact Ev.now _
  | succ d ih =>
    intro i x h1 h2 h3 h4
    have hi : i < r.length := by omega
    have w1 : wrap64 ((i : Int) + 1) = ((i + 1 : Nat) : Int) := by unfold wrap64; omega
    have hs := size_drop r i hi
    have hp := (isP_iff r[i]).1 (hr.2 _ (List.getElem_mem hi))
    have hn := nf_size' (nf_drop hr (i + 1))
    have w2 : wrap64 (x + wrap64 (r[i].f1 - r[i].f0)) = x + (r[i].f1 - r[i].f0) := by unfold wrap64; omega
    have e : x + size (r.drop i) = (x + (r[i].f1 - r[i].f0)) + size (r.drop (i + 1)) := by omega
    rw [e]
    refine Ev.step (fun k => ?_) (ih (i + 1) (x + (r[i].f1 - r[i].f0)) (by omega) (by omega) (by omega) (by omega))
    simp only [span_Size.l0, rd_S r i hi, w1, w2]
    rw [if_pos (by omega), if_pos (by omega), if_pos (by omega)]
theorem size_spec (a r : List S33) (ha : small a) (hr : NF r) (h : ∀ n, mem r n = mem a n) : Ev (fun k => span_Size.f k a) (size r) := by
  obtain ⟨r2, h1, h2, h3, h4⟩ := normal_spec a ha
  obtain rfl : r2 = r := nf_unique _ _ h2 hr (fun n => by rw [h3, h])
  refine Ev.bind (f := fun k t => span_Size.l0 k 0 t (t.length : Int) 0) h1 ?_
  have hz := nf_size' hr
  have := size_loop r2 hr (by unfold small at ha; omega) (r2.length - 0) 0 0 (Nat.zero_le _) rfl (by rw [List.drop_zero]; omega) (Int.le_refl _)
  rw [List.drop_zero, Int.zero_add] at this
  exact this
theorem equal_loop (a b : List S33) (h : a.length = b.length) (hl : a.length ≤ 100000000) : ∀ (d i : Nat), i ≤ a.length → a.length - i = d → Ev (fun k => api_Span__span_Valid_1.l0 k b a (a.length : Int) (i : Int)) (decide (a.drop i = b.drop i)) := by
  intro d
  induction d with
  | zero =>
    intro i h1 h2
    refine Ev.step (f := fun _ => some true) (fun k => ?_) ?_
    · simp only [api_Span__span_Valid_1.l0]
      rw [if_neg (by omega)]
    · rw [List.drop_eq_nil_of_le (by omega), List.drop_eq_nil_of_le (by omega)]
      exact Ev.now _
  | succ d ih =>
    intro i h1 h2
    have hi : i < a.length := by omega
    have hj : i < b.length := by omega
    have w1 : wrap64 ((i : Int) + 1) = ((i + 1 : Nat) : Int) := by unfold wrap64; omega
    have e1 := rd_S a i hi
    have e2 := rd_S b i hj
    have hd : decide (a.drop i = b.drop i) = ((a[i].f0 == b[i].f0 && (a[i].f1 == b[i].f1)) && decide (a.drop (i + 1) = b.drop (i + 1))) := by
      rw [List.drop_eq_getElem_cons hi, List.drop_eq_getElem_cons hj, Bool.eq_iff_iff]
      simp only [List.cons.injEq, Bool.and_eq_true, decide_eq_true_eq, beq_iff_eq]
      constructor
      · rintro ⟨h1, h2⟩
        rw [h1]
        exact ⟨⟨rfl, rfl⟩, h2⟩
      · rintro ⟨⟨h1, h2⟩, h3⟩
        refine ⟨?_, h3⟩
        cases ha : a[i]; cases hb : b[i]
        rw [ha, hb] at h1 h2
        simp at h1 h2
        simp [h1, h2]
    rw [hd]
    by_cases hc : (a[i].f0 == b[i].f0 && (a[i].f1 == b[i].f1)) = true
    · rw [hc, Bool.true_and]
      refine Ev.step (fun k => ?_) (ih (i + 1) (by omega) (by omega))
      simp only [api_Span__span_Valid_1.l0, e1, e2, w1, span_Valid_1.f]
      rw [if_pos (by omega), if_pos (by omega), if_pos (by omega), if_pos (by omega)]
      simp only [Option.bind_some]
      rw [if_pos hc]
    · have hc0 : (a[i].f0 == b[i].f0 && (a[i].f1 == b[i].f1)) = false := by simpa using hc
      rw [hc0, Bool.false_and]
      refine Ev.step (f := fun _ => some false) (fun k => ?_) (Ev.now _)
      simp only [api_Span__span_Valid_1.l0, e1, e2, w1, span_Valid_1.f]
      rw [if_pos (by omega), if_pos (by omega), if_pos (by omega), if_pos (by omega)]
      simp only [Option.bind_some]
      rw [if_neg hc]
theorem valid_spec (a : List S33) (ha : small a) : ∃ r, NF r ∧ (∀ n, mem r n = mem a n) ∧ Ev (fun k => span_Valid.f k a) (decide (r = a)) := by
  obtain ⟨r, h1, h2, h3, h4⟩ := normal_spec a ha
  refine ⟨r, h2, h3, ?_⟩
  have key : Ev (fun k => api_Span__span_Valid_1.f k r a) (decide (r = a)) := by
    by_cases hl : r.length = a.length
    · have := equal_loop r a hl (by unfold small at ha; omega) (r.length - 0) 0 (Nat.zero_le _) rfl
      rw [List.drop_zero, List.drop_zero] at this
      refine Ev.congr (fun k => ?_) this
      unfold api_Span__span_Valid_1.f
      rw [if_pos (by omega)]
      rfl
    · rw [decide_eq_false (fun h => hl (by rw [h]))]
      refine Ev.congr (f := fun _ => some false) (fun k => ?_) (Ev.now _)
      unfold api_Span__span_Valid_1.f
      rw [if_neg (by omega)]
  refine Ev.congr (f := fun k => (span_Normal.f k a).bind fun t => (api_Span__span_Valid_1.f k t a).bind some) (fun k => rfl) (Ev.bind (f := fun k t => (api_Span__span_Valid_1.f k t a).bind some) h1 (Ev.bind key (Ev.now _)))
theorem same_loop (a b : List S33) (h : a.length = b.length) (hl : a.length ≤ 100000000) : ∀ (d i : Nat), i ≤ a.length → a.length - i = d → Ev (fun k => wageofficeref04_Same.l0 k a b (i : Int)) (decide (a.drop i = b.drop i)) := by
  intro d
  induction d with
  | zero =>
    intro i h1 h2
    refine Ev.step (f := fun _ => some true) (fun k => ?_) ?_
    · simp only [wageofficeref04_Same.l0]
      rw [if_neg (by omega)]
    · rw [List.drop_eq_nil_of_le (by omega), List.drop_eq_nil_of_le (by omega)]
      exact Ev.now _
  | succ d ih =>
    intro i h1 h2
    have hi : i < a.length := by omega
    have hj : i < b.length := by omega
    have w1 : wrap64 ((i : Int) + 1) = ((i + 1 : Nat) : Int) := by unfold wrap64; omega
    have e1 := rd_S a i hi
    have e2 := rd_S b i hj
    have hd : decide (a.drop i = b.drop i) = (!(!(a[i].f0 == b[i].f0) || !(a[i].f1 == b[i].f1)) && decide (a.drop (i + 1) = b.drop (i + 1))) := by
      rw [List.drop_eq_getElem_cons hi, List.drop_eq_getElem_cons hj, Bool.eq_iff_iff]
      simp only [List.cons.injEq, Bool.and_eq_true, decide_eq_true_eq, Bool.not_or, Bool.not_not, beq_iff_eq]
      constructor
      · rintro ⟨h1, h2⟩
        rw [h1]
        exact ⟨⟨rfl, rfl⟩, h2⟩
      · rintro ⟨⟨h1, h2⟩, h3⟩
        refine ⟨?_, h3⟩
        cases ha : a[i]; cases hb : b[i]
        rw [ha, hb] at h1 h2
        simp at h1 h2
        simp [h1, h2]
    rw [hd]
    by_cases hc : (!(a[i].f0 == b[i].f0) || !(a[i].f1 == b[i].f1)) = true
    · rw [hc, Bool.not_true, Bool.false_and]
      refine Ev.step (f := fun _ => some false) (fun k => ?_) (Ev.now _)
      simp only [wageofficeref04_Same.l0, e1, e2, w1]
      rw [if_pos (by omega), if_pos (by omega), if_pos (by omega), if_pos hc]
    · have hc0 : (!(a[i].f0 == b[i].f0) || !(a[i].f1 == b[i].f1)) = false := by simpa using hc
      rw [hc0, Bool.not_false, Bool.true_and]
      refine Ev.step (fun k => ?_) (ih (i + 1) (by omega) (by omega))
      simp only [wageofficeref04_Same.l0, e1, e2, w1]
      rw [if_pos (by omega), if_pos (by omega), if_pos (by omega), if_neg hc]
theorem same_spec (a b : List S33) (hl : a.length ≤ 100000000) : Ev (fun k => wageofficeref04_Same.f k a b) (decide (a = b)) := by
  by_cases h : a.length = b.length
  · have := same_loop a b h hl (a.length - 0) 0 (Nat.zero_le _) rfl
    rw [List.drop_zero, List.drop_zero] at this
    refine Ev.congr (fun k => ?_) this
    unfold wageofficeref04_Same.f
    rw [if_pos (by omega)]
    rfl
  · rw [decide_eq_false (fun q => h (by rw [q]))]
    refine Ev.congr (f := fun _ => some false) (fun k => ?_) (Ev.now _)
    unfold wageofficeref04_Same.f
    rw [if_neg (by omega)]
end Go.Proofs.Ytgplnfhpeeifjaa.Q

namespace Go.Proofs.Ytgplnfhpeeifjaa.Q
open Go.RowKit Go.Proofs.YtgplnfhpeeifjaaW.PrintWords Go.Proofs.YtgplnfhpeeifjaaW.PrintLast Go.Proofs.YtgplnfhpeeifjaaW.PrintMore
set_option linter.unusedVariables false
set_option linter.unusedSimpArgs false
theorem ev_if {α : Type} {c : Prop} [Decidable c] {f g : Nat → Option α} {r : α} (hc : c) (h : Ev f r) : Ev (fun k => if c then f k else g k) r := Ev.congr (fun k => if_pos hc) h
theorem ev_else {α : Type} {c : Prop} [Decidable c] {f g : Nat → Option α} {r : α} (hc : ¬ c) (h : Ev g r) : Ev (fun k => if c then f k else g k) r := Ev.congr (fun k => if_neg hc) h
theorem ev_const {α β : Type} {o : Option α} {a : α} {f : Nat → α → Option β} {r : β} (h : o = some a) (k : Ev (fun n => f n a) r) : Ev (fun n => o.bind (f n)) r := Ev.congr (fun n => by rw [h]; rfl) k
theorem normal_is {a r : List S33} (ha : small a) (hr : NF r) (h : ∀ n, mem r n = mem a n) : Ev (fun k => span_Normal.f k a) r := by
  obtain ⟨r2, h1, h2, h3, _⟩ := normal_spec a ha
  obtain rfl := nf_unique r2 r h2 hr (fun n => by rw [h3, h])
  exact h1
theorem union_is {a b r : List S33} (ha : small a) (hb : small b) (hr : NF r) (h : ∀ n, mem r n = (mem a n || mem b n)) : Ev (fun k => span_Union.f k a b) r := by
  obtain ⟨r2, h1, h2, h3, _⟩ := union_spec a b ha hb
  obtain rfl := nf_unique r2 r h2 hr (fun n => by rw [h3, h])
  exact h1
theorem meet_is {a b r : List S33} (ha : small a) (hb : small b) (hr : NF r) (h : ∀ n, mem r n = (mem a n && mem b n)) : Ev (fun k => span_Meet.f k a b) r := by
  obtain ⟨r2, h1, h2, h3, _⟩ := meet_spec a b ha hb
  obtain rfl := nf_unique r2 r h2 hr (fun n => by rw [h3, h])
  exact h1
theorem minus_is {a b r : List S33} (ha : small a) (hb : small b) (hr : NF r) (h : ∀ n, mem r n = (mem a n && !mem b n)) : Ev (fun k => span_Minus.f k a b) r := by
  obtain ⟨r2, h1, h2, h3, _⟩ := minus_spec a b ha hb
  obtain rfl := nf_unique r2 r h2 hr (fun n => by rw [h3, h])
  exact h1
theorem valid_yes {a : List S33} (ha : small a) (h : NF a) : Ev (fun k => span_Valid.f k a) true := by
  obtain ⟨r, h1, h2, h3⟩ := valid_spec a ha
  obtain rfl := nf_unique r a h1 h h2
  rwa [decide_eq_true rfl] at h3
theorem valid_no {a : List S33} (ha : small a) (h : ¬ NF a) : Ev (fun k => span_Valid.f k a) false := by
  obtain ⟨r, h1, h2, h3⟩ := valid_spec a ha
  rwa [decide_eq_false (fun q : r = a => h (by rw [← q]; exact h1))] at h3
theorem list_is {l : List Int} {r : List S33} (k : Nat) (h : wageofficelaw04_list.f k l = some r) : Ev (fun k => wageofficelaw04_list.f k l) r := Ev.of (wageofficelaw04_list.mono l) h
theorem same_is {a b : List S33} (h : a = b) (hl : a.length ≤ 100000000) : Ev (fun k => wageofficeref04_Same.f k a b) true := by
  have := same_spec a b hl
  rwa [decide_eq_true h] at this
theorem small_lit {a : List S33} (h : a.length ≤ 10) : small a := by unfold small; omega
theorem nf_lit (a : List S33) (h : (decide (a.Pairwise (fun s t => s.f1 < t.f0)) && a.all isP) = true) : NF a := by
  rw [Bool.and_eq_true] at h
  exact ⟨of_decide_eq_true h.1, fun s hs => List.all_eq_true.1 h.2 s hs⟩
set_option maxHeartbeats 2000000 in
theorem head_true : Ev (fun k => wageofficelaw04_head.f k) true := by
  have m : ∀ (l : List S33) (n : Int), mem l n = l.any fun s => decide (s.f0 ≥ -1152921504606846976) && decide (s.f1 ≤ 1152921504606846976) && decide (s.f0 < s.f1) && decide (s.f0 ≤ n) && decide (n < s.f1) := fun _ _ => rfl
  unfold wageofficelaw04_head.f
  refine Ev.bind (list_is (r := [⟨1, 10⟩]) 20 (by kernel_rfl)) ?_
  refine Ev.bind (list_is (r := [⟨0, 2⟩, ⟨5, 7⟩]) 20 (by kernel_rfl)) ?_
  refine Ev.bind (list_is (r := [⟨5, 8⟩, ⟨1, 3⟩, ⟨3, 4⟩, ⟨9, 9⟩, ⟨7, 2⟩]) 20 (by kernel_rfl)) ?_
  refine Ev.bind (normal_is (r := [⟨1, 4⟩, ⟨5, 8⟩]) (small_lit (by decide)) (nf_lit _ (by decide)) (fun n => by rw [Bool.eq_iff_iff]; simp [m]; omega)) ?_
  refine Ev.bind (list_is (r := [⟨1, 4⟩, ⟨5, 8⟩]) 20 (by kernel_rfl)) ?_
  refine Ev.bind (same_is rfl (by decide)) ?_
  refine ev_if rfl ?_
  refine Ev.bind (meet_is (r := [⟨1, 2⟩, ⟨5, 7⟩]) (small_lit (by decide)) (small_lit (by decide)) (nf_lit _ (by decide)) (fun n => by rw [Bool.eq_iff_iff]; simp [m]; omega)) ?_
  refine Ev.bind (list_is (r := [⟨1, 2⟩, ⟨5, 7⟩]) 20 (by kernel_rfl)) ?_
  refine Ev.bind (same_is rfl (by decide)) ?_
  refine ev_if rfl ?_
  refine Ev.bind (minus_is (r := [⟨2, 5⟩, ⟨7, 10⟩]) (small_lit (by decide)) (small_lit (by decide)) (nf_lit _ (by decide)) (fun n => by rw [Bool.eq_iff_iff]; simp [m]; omega)) ?_
  refine Ev.bind (list_is (r := [⟨2, 5⟩, ⟨7, 10⟩]) 20 (by kernel_rfl)) ?_
  refine Ev.bind (same_is rfl (by decide)) ?_
  refine ev_if rfl ?_
  refine Ev.bind (union_is (r := [⟨0, 10⟩]) (small_lit (by decide)) (small_lit (by decide)) (nf_lit _ (by decide)) (fun n => by rw [Bool.eq_iff_iff]; simp [m]; omega)) ?_
  refine Ev.bind (list_is (r := [⟨0, 10⟩]) 20 (by kernel_rfl)) ?_
  refine Ev.bind (same_is rfl (by decide)) ?_
  refine ev_if rfl ?_
  refine Ev.bind (list_is (r := [⟨1, 5⟩, ⟨3, 8⟩]) 20 (by kernel_rfl)) ?_
  refine Ev.bind (size_spec _ [⟨1, 8⟩] (small_lit (by decide)) (nf_lit _ (by decide)) (fun n => by rw [Bool.eq_iff_iff]; simp [m]; omega)) ?_
  refine ev_if (by decide) ?_
  refine ev_const (has_spec _ 6 (small_lit (by decide))) ?_
  refine ev_if (by decide) ?_
  refine ev_const (has_spec _ 7 (small_lit (by decide))) ?_
  refine ev_else (by decide) ?_
  refine Ev.bind (valid_yes (small_lit (by decide)) (nf_lit _ (by decide))) ?_
  refine ev_if rfl ?_
  refine Ev.bind (list_is (r := [⟨1, 3⟩, ⟨3, 4⟩]) 20 (by kernel_rfl)) ?_
  refine Ev.bind (valid_no (small_lit (by decide)) (fun h => by have := (List.pairwise_cons.1 h.1).1 ⟨3, 4⟩ (by simp); simp at this)) ?_
  exact Ev.now _
theorem short_loop (ll : List (List S33)) (hl : ll.length ≤ 10) : ∀ (d i : Nat), i ≤ ll.length → ll.length - i = d → Ev (fun k => wageofficelaw04_short.l0 k ll (ll.length : Int) (i : Int)) ((ll.drop i).all fun l => decide (l.length ≤ 60)) := by
  intro d
  induction d with
  | zero =>
    intro i h1 h2
    refine Ev.step (f := fun _ => some true) (fun k => ?_) ?_
    · simp only [wageofficelaw04_short.l0]
      rw [if_neg (by omega)]
    · rw [List.drop_eq_nil_of_le (by omega)]
      exact Ev.now _
  | succ d ih =>
    intro i h1 h2
    have hi : i < ll.length := by omega
    have w1 : wrap64 ((i : Int) + 1) = ((i + 1 : Nat) : Int) := by unfold wrap64; omega
    have er : rd_L4 ll (i : Int) = ll[i] := by simp [rd_L4, List.getD_eq_getElem?_getD, List.getElem?_eq_getElem hi]
    rw [List.drop_eq_getElem_cons hi, List.all_cons]
    by_cases h : ll[i].length ≤ 60
    · rw [decide_eq_true h, Bool.true_and]
      refine Ev.step (fun k => ?_) (ih (i + 1) (by omega) (by omega))
      simp only [wageofficelaw04_short.l0, er, w1]
      rw [if_pos (by omega), if_pos (by omega), if_pos (by omega), if_neg (by omega)]
    · rw [decide_eq_false h, Bool.false_and]
      refine Ev.step (f := fun _ => some false) (fun k => ?_) (Ev.now _)
      simp only [wageofficelaw04_short.l0, er, w1]
      rw [if_pos (by omega), if_pos (by omega), if_pos (by omega), if_pos (by omega)]
theorem short_spec (ll : List (List S33)) (hl : ll.length ≤ 10) : Ev (fun k => wageofficelaw04_short.f k ll) (ll.all fun l => decide (l.length ≤ 60)) := by
  have := short_loop ll hl (ll.length - 0) 0 (Nat.zero_le _) rfl
  rw [List.drop_zero] at this
  exact this
theorem small_of {a : List S33} (h : a.length ≤ 60) : small a := by unfold small; omega
end Go.Proofs.Ytgplnfhpeeifjaa.Q

namespace Go.Proofs.Ytgplnfhpeeifjaa.Q
open Go Go.RowKit Go.Proofs.YtgplnfhpeeifjaaW.PrintWords Go.Proofs.YtgplnfhpeeifjaaW.PrintLast Go.Proofs.YtgplnfhpeeifjaaW.PrintMore
set_option linter.unusedVariables false
set_option linter.unusedSimpArgs false
def SrtS (l : List S33) : Prop := l.Pairwise (fun s t => s.f0 ≤ t.f0)
theorem merge_loop (a b : List S33) (hla : a.length ≤ 100000) (hlb : b.length ≤ 100000) : ∀ (d i j : Nat) (out : List S33), i ≤ a.length → j ≤ b.length → (a.length - i) + (b.length - j) = d → out.length = i + j →
    ∃ r, Ev (fun k => wageofficeref04_merge.l0 k a b out (i : Int) (j : Int)) (out ++ r) ∧ r.Perm (a.drop i ++ b.drop j) ∧ (SrtS (a.drop i) → SrtS (b.drop j) → SrtS r) := by
  intro d
  induction d with
  | zero =>
    intro i j out h1 h2 h3 h4
    refine ⟨[], ?_, ?_, fun _ _ => List.Pairwise.nil⟩
    · rw [List.append_nil]
      refine Ev.step (f := fun k => wageofficeref04_merge.j1 k a b out (i : Int) (j : Int) false) (fun k => ?_) ?_
      · simp only [wageofficeref04_merge.l0]
        rw [if_neg (by omega), decide_eq_false (by omega)]
      · refine Ev.step (f := fun _ => some out) (fun k => ?_) (Ev.now _)
        simp only [wageofficeref04_merge.j1]
        rw [if_neg (by simp)]
    · rw [List.drop_eq_nil_of_le (by omega), List.drop_eq_nil_of_le (by omega)]
      exact List.Perm.nil
  | succ d ih =>
    intro i j out h1 h2 h3 h4
    have w1 : wrap64 ((i : Int) + 1) = ((i + 1 : Nat) : Int) := by unfold wrap64; omega
    have w2 : wrap64 ((j : Int) + 1) = ((j + 1 : Nat) : Int) := by unfold wrap64; omega
    have hj1 : Ev (fun k => wageofficeref04_merge.j1 k a b out (i : Int) (j : Int) true) = Ev (fun k => wageofficeref04_merge.j1 k a b out (i : Int) (j : Int) true) := rfl
    -- the first step
    have first : ∀ r, Ev (fun k => wageofficeref04_merge.j1 k a b out (i : Int) (j : Int) true) r → Ev (fun k => wageofficeref04_merge.l0 k a b out (i : Int) (j : Int)) r := by
      intro r h
      refine Ev.step (fun k => ?_) h
      simp only [wageofficeref04_merge.l0]
      by_cases c : (i : Int) < (a.length : Int)
      · rw [if_pos c]
      · rw [if_neg c, decide_eq_true (by omega)]
    -- one of the first list
    have takeA : ∀ (hi : i < a.length), (∀ u ∈ b.drop j, SrtS (b.drop j) → a[i].f0 ≤ u.f0) → (∀ r, Ev (fun k => wageofficeref04_merge.l0 k a b (out ++ [(⟨a[i].f0, a[i].f1⟩ : S33)]) ((i + 1 : Nat) : Int) (j : Int)) r → Ev (fun k => wageofficeref04_merge.j1 k a b out (i : Int) (j : Int) true) r) →
        ∃ r, Ev (fun k => wageofficeref04_merge.l0 k a b out (i : Int) (j : Int)) (out ++ r) ∧ r.Perm (a.drop i ++ b.drop j) ∧ (SrtS (a.drop i) → SrtS (b.drop j) → SrtS r) := by
      intro hi hle go
      obtain ⟨r, e1, e2, e3⟩ := ih (i + 1) j (out ++ [(⟨a[i].f0, a[i].f1⟩ : S33)]) (by omega) h2 (by omega) (by rw [List.length_append, h4, List.length_singleton]; omega)
      rw [List.append_assoc] at e1
      refine ⟨a[i] :: r, first _ (go _ e1), ?_, ?_⟩
      · rw [List.drop_eq_getElem_cons hi]
        exact e2.cons _
      · intro s1 s2
        have s1' := s1
        rw [List.drop_eq_getElem_cons hi] at s1'
        have s1' := List.pairwise_cons.1 s1'
        refine List.pairwise_cons.2 ⟨fun u hu => ?_, e3 s1'.2 s2⟩
        rcases List.mem_append.1 (e2.mem_iff.1 hu) with hu | hu
        · exact s1'.1 u hu
        · exact hle u hu s2
    have takeB : ∀ (hj : j < b.length), (∀ u ∈ a.drop i, SrtS (a.drop i) → b[j].f0 ≤ u.f0) → (∀ r, Ev (fun k => wageofficeref04_merge.l0 k a b (out ++ [(⟨b[j].f0, b[j].f1⟩ : S33)]) (i : Int) ((j + 1 : Nat) : Int)) r → Ev (fun k => wageofficeref04_merge.j1 k a b out (i : Int) (j : Int) true) r) →
        ∃ r, Ev (fun k => wageofficeref04_merge.l0 k a b out (i : Int) (j : Int)) (out ++ r) ∧ r.Perm (a.drop i ++ b.drop j) ∧ (SrtS (a.drop i) → SrtS (b.drop j) → SrtS r) := by
      intro hj hle go
      obtain ⟨r, e1, e2, e3⟩ := ih i (j + 1) (out ++ [(⟨b[j].f0, b[j].f1⟩ : S33)]) h1 (by omega) (by omega) (by rw [List.length_append, h4, List.length_singleton]; omega)
      rw [List.append_assoc] at e1
      refine ⟨b[j] :: r, first _ (go _ e1), ?_, ?_⟩
      · rw [List.drop_eq_getElem_cons hj]
        exact (e2.cons _).trans (List.perm_middle).symm
      · intro s1 s2
        have s2' := s2
        rw [List.drop_eq_getElem_cons hj] at s2'
        have s2' := List.pairwise_cons.1 s2'
        refine List.pairwise_cons.2 ⟨fun u hu => ?_, e3 s1 s2'.2⟩
        rcases List.mem_append.1 (e2.mem_iff.1 hu) with hu | hu
        · exact hle u hu s1
        · exact s2'.1 u hu
    by_cases ci : i < a.length
    · have ea := rd_S a i ci
      by_cases cj : j < b.length
      · have eb := rd_S b j cj
        by_cases c : a[i].f0 ≤ b[j].f0
        · refine takeA ci ?_ ?_
          · intro u hu hs
            rw [List.drop_eq_getElem_cons cj] at hu hs
            rcases List.mem_cons.1 hu with rfl | hu
            · exact c
            · exact Int.le_trans c ((List.pairwise_cons.1 hs).1 u hu)
          · intro r h
            refine Ev.step (fun k => ?_) h
            simp only [wageofficeref04_merge.j1, ea, eb, w1, w2]
            rw [if_pos trivial, if_neg (by omega), if_pos (by omega), if_pos (by omega), if_pos (by omega), if_pos (by omega), if_pos c, if_pos (by omega)]
        · refine takeB cj ?_ ?_
          · intro u hu hs
            rw [List.drop_eq_getElem_cons ci] at hu hs
            rcases List.mem_cons.1 hu with rfl | hu
            · omega
            · have := (List.pairwise_cons.1 hs).1 u hu
              omega
          · intro r h
            refine Ev.step (fun k => ?_) h
            simp only [wageofficeref04_merge.j1, ea, eb, w1, w2]
            rw [if_pos trivial, if_neg (by omega), if_pos (by omega), if_pos (by omega), if_pos (by omega), if_pos (by omega), if_neg c, if_pos (by omega)]
      · refine takeA ci ?_ ?_
        · intro u hu hs
          rw [List.drop_eq_nil_of_le (by omega)] at hu
          cases hu
        · intro r h
          refine Ev.step (fun k => ?_) h
          simp only [wageofficeref04_merge.j1, ea, w1, w2]
          rw [if_pos trivial, if_pos (by omega), if_pos (by omega), if_pos (by omega), if_pos (by omega)]
    · have cj : j < b.length := by omega
      have eb := rd_S b j cj
      refine takeB cj ?_ ?_
      · intro u hu hs
        rw [List.drop_eq_nil_of_le (by omega)] at hu
        cases hu
      · intro r h
        refine Ev.step (fun k => ?_) h
        simp only [wageofficeref04_merge.j1, eb, w1, w2]
        rw [if_pos trivial, if_neg (by omega), if_neg (by omega), if_pos (by omega), if_pos (by omega), if_pos (by omega)]
theorem merge_spec (a b : List S33) (hla : a.length ≤ 100000) (hlb : b.length ≤ 100000) (sa : SrtS a) (sb : SrtS b) : ∃ r, Ev (fun k => wageofficeref04_merge.f k a b) r ∧ r.Perm (a ++ b) ∧ SrtS r := by
  obtain ⟨r, h1, h2, h3⟩ := merge_loop a b hla hlb _ 0 0 [] (Nat.zero_le _) (Nat.zero_le _) rfl rfl
  exact ⟨r, h1, h2, h3 sa sb⟩
theorem sorted_spec : ∀ (n : Nat) (l : List S33), l.length ≤ n → l.length ≤ 100000 → ∃ r, Ev (fun k => wageofficeref04_sorted.f k l) r ∧ r.Perm l ∧ SrtS r := by
  intro n
  induction n with
  | zero =>
    intro l h1 h2
    obtain rfl : l = [] := List.eq_nil_of_length_eq_zero (by omega)
    exact ⟨[], Ev.step (f := fun _ => some []) (fun k => by simp only [wageofficeref04_sorted.f]; rw [if_pos (by simp)]) (Ev.now _), List.Perm.nil, List.Pairwise.nil⟩
  | succ n ih =>
    intro l h1 h2
    by_cases c : (l.length : Int) < 2
    · refine ⟨l, Ev.step (f := fun _ => some l) (fun k => by simp only [wageofficeref04_sorted.f]; rw [if_pos c]) (Ev.now _), List.Perm.refl _, ?_⟩
      match l, c with
      | [], _ => exact List.Pairwise.nil
      | [x], _ => exact List.pairwise_singleton _ _
      | x :: y :: l, c => simp at c; omega
    · have w : wrap64 ((l.length : Int) / 2) = ((l.length / 2 : Nat) : Int) := by unfold wrap64; omega
      obtain ⟨a, ha, pa, sa⟩ := ih (l.take (l.length / 2)) (by rw [List.length_take]; omega) (by rw [List.length_take]; omega)
      obtain ⟨b, hb, pb, sb⟩ := ih (l.drop (l.length / 2)) (by rw [List.length_drop]; omega) (by rw [List.length_drop]; omega)
      obtain ⟨r, hr, pr, sr⟩ := merge_spec a b (by rw [pa.length_eq, List.length_take]; omega) (by rw [pb.length_eq, List.length_drop]; omega) sa sb
      refine ⟨r, ?_, ?_, sr⟩
      · refine Ev.step (g := fun k => wageofficeref04_sorted.f k l) (fun k => by simp only [wageofficeref04_sorted.f, w, Int.toNat_natCast]; rw [if_neg c, if_pos (by omega), if_pos (by omega)]) ?_
        refine Ev.bind ha ?_
        refine Ev.bind hb ?_
        refine Ev.bind hr ?_
        exact Ev.now _
      · refine pr.trans ((pa.append pb).trans ?_)
        rw [List.take_append_drop]
theorem proper_R (s : S33) : wageofficeref04_Proper.f s.f0 s.f1 = some (isP s) := by
  unfold wageofficeref04_Proper.f isP
  by_cases h1 : s.f0 ≥ -1152921504606846976
  · rw [if_pos h1, decide_eq_true h1, Bool.true_and]
    by_cases h2 : s.f1 ≤ 1152921504606846976
    · rw [if_pos h2, decide_eq_true h2, Bool.true_and]
    · rw [if_neg h2, decide_eq_false h2, Bool.false_and]
  · rw [if_neg h1, decide_eq_false h1, Bool.false_and, Bool.false_and]
theorem nf_snoc (o : List S33) (z : S33) : NF (o ++ [z]) ↔ NF o ∧ isP z = true ∧ ∀ t ∈ o, t.f1 < z.f0 := by
  unfold NF
  rw [List.pairwise_append]
  constructor
  · rintro ⟨⟨p, _, q⟩, h⟩
    exact ⟨⟨p, fun s hs => h s (List.mem_append_left _ hs)⟩, h z (by simp), fun t ht => q t ht z (by simp)⟩
  · rintro ⟨⟨p, h⟩, hz, q⟩
    refine ⟨⟨p, List.pairwise_singleton _ _, fun t ht u hu => ?_⟩, fun s hs => ?_⟩
    · rw [List.mem_singleton.1 hu]; exact q t ht
    · rcases List.mem_append.1 hs with hs | hs
      · exact h s hs
      · rw [List.mem_singleton.1 hs]; exact hz
theorem mem_one (s : S33) (n : Int) : mem [s] n = inS n s := by
  rw [mem_cons, show mem [] n = false from rfl, Bool.or_false]
theorem inS_p {s : S33} (p : isP s = true) (n : Int) : inS n s = true ↔ s.f0 ≤ n ∧ n < s.f1 := by
  rw [inS_iff]
  exact ⟨fun h => h.2, fun h => ⟨p, h⟩⟩
theorem inS_bad {s : S33} (p : isP s = false) (n : Int) : inS n s = false := by
  cases q : inS n s
  · rfl
  · have := ((inS_iff n s).1 q).1
    rw [p] at this
    cases this
theorem rnorm_loop (s : List S33) (hs : SrtS s) (hl : s.length ≤ 100000) : ∀ (d i : Nat) (out : List S33), i ≤ s.length → s.length - i = d → NF out → (∀ t ∈ out, ∀ u ∈ s.drop i, t.f0 ≤ u.f0) → out.length ≤ i →
    ∃ r, Ev (fun k => wageofficeref04_Normal.l0 k out s (i : Int)) r ∧ NF r ∧ (∀ n, mem r n = (mem out n || mem (s.drop i) n)) ∧ r.length ≤ s.length := by
  intro d
  induction d with
  | zero =>
    intro i out h1 h2 h3 h4 h5
    refine ⟨out, ?_, h3, fun n => ?_, by omega⟩
    · refine Ev.step (f := fun _ => some out) (fun k => ?_) (Ev.now _)
      simp only [wageofficeref04_Normal.l0]
      rw [if_neg (by omega)]
    · rw [List.drop_eq_nil_of_le (by omega), show mem [] n = false from rfl, Bool.or_false]
  | succ d ih =>
    intro i out h1 h2 h3 h4 h5
    have hi : i < s.length := by omega
    have w1 : wrap64 ((i : Int) + 1) = ((i + 1 : Nat) : Int) := by unfold wrap64; omega
    have er := rd_S s i hi
    have hd := List.drop_eq_getElem_cons hi
    have hsd : SrtS (s.drop i) := hs.sublist (List.drop_sublist _ _)
    rw [hd] at hsd h4
    have hx := List.pairwise_cons.1 hsd
    have h4t : ∀ t ∈ out, ∀ u ∈ s.drop (i + 1), t.f0 ≤ u.f0 := fun t ht u hu => h4 t ht u (List.mem_cons_of_mem _ hu)
    have h4x : ∀ t ∈ out, t.f0 ≤ s[i].f0 := fun t ht => h4 t ht _ List.mem_cons_self
    have one : ∀ r, Ev (fun k => (wageofficeref04_Normal.l0 (k + 1) out s (i : Int))) r → Ev (fun k => wageofficeref04_Normal.l0 k out s (i : Int)) r := fun r h => Ev.step (fun k => rfl) h
    cases p : isP s[i] with
    | false =>
      obtain ⟨r, e1, e2, e3, e4⟩ := ih (i + 1) out (by omega) (by omega) h3 h4t (by omega)
      refine ⟨r, ?_, e2, fun n => ?_, e4⟩
      · refine Ev.step (fun k => ?_) e1
        simp only [wageofficeref04_Normal.l0, er, w1, proper_R, p, Option.bind_some]
        rw [if_pos (by omega), if_pos (by omega), if_neg (by simp)]
      · rw [e3, hd, mem_cons, inS_bad p, Bool.false_or]
    | true =>
      have px := (isP_iff _).1 p
      rcases List.eq_nil_or_concat out with rfl | ⟨o, z, rfl⟩
      · obtain ⟨r, e1, e2, e3, e4⟩ := ih (i + 1) ([] ++ [s[i]]) (by omega) (by omega) ((nf_snoc _ _).2 ⟨h3, p, fun t ht => by cases ht⟩) (fun t ht u hu => by rw [List.nil_append, List.mem_singleton] at ht; rw [ht]; exact hx.1 u hu) (by simp)
        refine ⟨r, ?_, e2, fun n => ?_, e4⟩
        · refine Ev.step (fun k => ?_) e1
          simp only [wageofficeref04_Normal.l0, er, w1, proper_R, p, Option.bind_some]
          rw [if_pos (by omega), if_pos (by omega), if_pos trivial, if_neg (by simp), if_pos (by simp)]
        · rw [e3, hd, mem_cons, List.nil_append, mem_one]
          rfl
      · simp only [List.concat_eq_append] at *
        have hz := (nf_snoc _ _).1 h3
        have pz := (isP_iff _).1 hz.2.1
        have hzx : z.f0 ≤ s[i].f0 := h4x z (by simp)
        have hlen : (o ++ [z]).length = o.length + 1 := by simp
        have w2 : wrap64 (((o ++ [z]).length : Int) - 1) = (o.length : Int) := by rw [hlen]; unfold wrap64; omega
        have ez : rd_T33 (o ++ [z]) (o.length : Int) = z := by rw [rd_S _ o.length (by simp)]; simp
        by_cases c : s[i].f0 ≤ z.f1
        · have hm : mx z.f1 s[i].f1 = if z.f1 < s[i].f1 then s[i].f1 else z.f1 := rfl
          have es : (o ++ [z]).set o.length (⟨z.f0, mx z.f1 s[i].f1⟩ : S33) = o ++ [(⟨z.f0, mx z.f1 s[i].f1⟩ : S33)] := by rw [List.set_append_right _ _ (Nat.le_refl _)]; simp
          have pn : isP (⟨z.f0, mx z.f1 s[i].f1⟩ : S33) = true := by
            rw [isP_iff, hm]
            simp only
            split <;> omega
          obtain ⟨r, e1, e2, e3, e4⟩ := ih (i + 1) (o ++ [(⟨z.f0, mx z.f1 s[i].f1⟩ : S33)]) (by omega) (by omega) ((nf_snoc _ _).2 ⟨hz.1, pn, hz.2.2⟩)
            (fun t ht u hu => by
              rcases List.mem_append.1 ht with ht | ht
              · exact h4t t (List.mem_append_left _ ht) u hu
              · rw [List.mem_singleton.1 ht]; exact h4t z (by simp) u hu) (by simp at h5 ⊢; omega)
          refine ⟨r, ?_, e2, fun n => ?_, e4⟩
          · refine Ev.step (fun k => ?_) e1
            simp only [wageofficeref04_Normal.l0, er, w1, w2, ez, proper_R, p, Option.bind_some, Int.toNat_natCast, es]
            rw [if_pos (by omega), if_pos (by omega), if_pos trivial, if_pos (by rw [hlen]; omega), if_pos (by omega), if_pos (by rw [hlen]; omega), if_pos c]
          · rw [e3, hd, mem_append, mem_append, mem_one, mem_one, mem_cons]
            have : inS n (⟨z.f0, mx z.f1 s[i].f1⟩ : S33) = (inS n z || inS n s[i]) := by
              rw [Bool.eq_iff_iff, Bool.or_eq_true, inS_p pn, inS_p hz.2.1, inS_p p, hm]
              simp only
              split <;> omega
            rw [this]
            cases mem o n <;> cases inS n z <;> rfl
        · obtain ⟨r, e1, e2, e3, e4⟩ := ih (i + 1) ((o ++ [z]) ++ [s[i]]) (by omega) (by omega)
            ((nf_snoc _ _).2 ⟨h3, p, fun t ht => by
              rcases List.mem_append.1 ht with ht | ht
              · have := hz.2.2 t ht
                omega
              · rw [List.mem_singleton.1 ht]; omega⟩)
            (fun t ht u hu => by
              rcases List.mem_append.1 ht with ht | ht
              · exact h4t t ht u hu
              · rw [List.mem_singleton.1 ht]; exact hx.1 u hu) (by rw [List.length_append, List.length_singleton]; omega)
          refine ⟨r, ?_, e2, fun n => ?_, e4⟩
          · refine Ev.step (fun k => ?_) e1
            simp only [wageofficeref04_Normal.l0, er, w1, w2, ez, proper_R, p, Option.bind_some]
            rw [if_pos (by omega), if_pos (by omega), if_pos trivial, if_pos (by rw [hlen]; omega), if_pos (by omega), if_pos (by rw [hlen]; omega), if_neg c, if_pos (by omega)]
          · rw [e3, hd, mem_append _ [s[i]], mem_one, mem_cons]
            cases mem (o ++ [z]) n <;> cases inS n s[i] <;> rfl
theorem mem_perm' {a b : List S33} (h : a.Perm b) (n : Int) : mem a n = mem b n := by
  rw [Bool.eq_iff_iff]
  unfold mem
  rw [List.any_eq_true, List.any_eq_true]
  constructor
  · rintro ⟨s, hs, hi⟩; exact ⟨s, h.mem_iff.1 hs, hi⟩
  · rintro ⟨s, hs, hi⟩; exact ⟨s, h.mem_iff.2 hs, hi⟩
theorem rnormal_spec (l : List S33) (hl : l.length ≤ 100000) : ∃ r, Ev (fun k => wageofficeref04_Normal.f k l) r ∧ NF r ∧ (∀ n, mem r n = mem l n) ∧ r.length ≤ l.length := by
  obtain ⟨s, h1, h2, h3⟩ := sorted_spec _ l (Nat.le_refl _) hl
  obtain ⟨r, e1, e2, e3, e4⟩ := rnorm_loop s h3 (by rw [h2.length_eq]; exact hl) _ 0 [] (Nat.zero_le _) rfl ⟨List.Pairwise.nil, fun s hs => by cases hs⟩ (fun t ht => by cases ht) (Nat.le_refl _)
  refine ⟨r, Ev.bind h1 e1, e2, fun n => ?_, by rw [← h2.length_eq]; exact e4⟩
  rw [e3, List.drop_zero, mem_perm' h2]
  rfl
end Go.Proofs.Ytgplnfhpeeifjaa.Q

namespace Go.Proofs.Ytgplnfhpeeifjaa.Q
open Go Go.RowKit Go.Proofs.YtgplnfhpeeifjaaW.PrintWords Go.Proofs.YtgplnfhpeeifjaaW.PrintLast Go.Proofs.YtgplnfhpeeifjaaW.PrintMore
set_option linter.unusedVariables false
set_option linter.unusedSimpArgs false
theorem meet_add {a b : S33} (pa : isP a = true) (pb : isP b = true) {r : List S33} (nr : NF r) (hr : ∀ n, mem r n = true → mn a.f1 b.f1 < n) :
    NF (if mx a.f0 b.f0 < mn a.f1 b.f1 then (⟨mx a.f0 b.f0, mn a.f1 b.f1⟩ : S33) :: r else r) ∧ ∀ n, mem (if mx a.f0 b.f0 < mn a.f1 b.f1 then (⟨mx a.f0 b.f0, mn a.f1 b.f1⟩ : S33) :: r else r) n = ((inS n a && inS n b) || mem r n) := by
  have qa := (isP_iff _).1 pa
  have qb := (isP_iff _).1 pb
  have hM : mx a.f0 b.f0 = if a.f0 < b.f0 then b.f0 else a.f0 := rfl
  have hm : mn a.f1 b.f1 = if b.f1 < a.f1 then b.f1 else a.f1 := rfl
  by_cases c : mx a.f0 b.f0 < mn a.f1 b.f1
  · have p : isP (⟨mx a.f0 b.f0, mn a.f1 b.f1⟩ : S33) = true := by
      rw [isP_iff]
      refine ⟨?_, ?_, c⟩
      · simp only; rw [hM]; split <;> omega
      · simp only; rw [hm]; split <;> omega
    rw [if_pos c]
    refine ⟨⟨List.pairwise_cons.2 ⟨fun s hs => ?_, nr.1⟩, fun s hs => ?_⟩, fun n => ?_⟩
    · have ps := nr.2 s hs
      have qs := (isP_iff _).1 ps
      exact hr s.f0 (List.any_eq_true.2 ⟨s, hs, (inS_iff _ _).2 ⟨ps, by omega, by omega⟩⟩)
    · rcases List.mem_cons.1 hs with rfl | hs
      · exact p
      · exact nr.2 s hs
    · rw [mem_cons]
      have : inS n (⟨mx a.f0 b.f0, mn a.f1 b.f1⟩ : S33) = (inS n a && inS n b) := by
        rw [Bool.eq_iff_iff, Bool.and_eq_true, inS_p p, inS_p pa, inS_p pb, hM, hm]
        simp only
        split <;> split <;> omega
      rw [this]
  · rw [if_neg c]
    refine ⟨nr, fun n => ?_⟩
    have : (inS n a && inS n b) = false := by
      cases q : (inS n a && inS n b)
      · rfl
      · rw [Bool.and_eq_true, inS_p pa, inS_p pb] at q
        rw [hM, hm] at c
        split at c <;> split at c <;> omega
    rw [this, Bool.false_or]
theorem nf_next {s : S33} {l : List S33} (h : NF (s :: l)) (n : Int) (hn : mem l n = true) : s.f1 < n := by
  rw [nf_rest h n, Bool.and_eq_true, decide_eq_true_eq] at hn
  exact hn.2
theorem rmeet_loop (A B : List S33) (nA : NF A) (nB : NF B) (hla : A.length ≤ 100000) (hlb : B.length ≤ 100000) : ∀ (d i j : Nat) (out : List S33), i ≤ A.length → j ≤ B.length → (A.length - i) + (B.length - j) = d → out.length ≤ i + j →
    ∃ r, Ev (fun k => wageofficeref04_Meet.l0 k A B out (i : Int) (j : Int)) (out ++ r) ∧ NF r ∧ (∀ n, mem r n = (mem (A.drop i) n && mem (B.drop j) n)) ∧ r.length ≤ d := by
  intro d
  induction d with
  | zero =>
    intro i j out h1 h2 h3 h4
    refine ⟨[], ?_, ⟨List.Pairwise.nil, fun s hs => by cases hs⟩, fun n => ?_, Nat.le_refl _⟩
    · rw [List.append_nil]
      refine Ev.step (f := fun k => wageofficeref04_Meet.j1 k A B out (i : Int) (j : Int) false) (fun k => ?_) ?_
      · simp only [wageofficeref04_Meet.l0]
        rw [if_neg (by omega)]
      · refine Ev.step (f := fun _ => some out) (fun k => ?_) (Ev.now _)
        simp only [wageofficeref04_Meet.j1]
        rw [if_neg (by simp)]
    · rw [List.drop_eq_nil_of_le (by omega)]
      rfl
  | succ d ih =>
    intro i j out h1 h2 h3 h4
    have w1 : wrap64 ((i : Int) + 1) = ((i + 1 : Nat) : Int) := by unfold wrap64; omega
    have w2 : wrap64 ((j : Int) + 1) = ((j + 1 : Nat) : Int) := by unfold wrap64; omega
    by_cases c : i < A.length ∧ j < B.length
    · obtain ⟨ci, cj⟩ := c
      have ea := rd_S A i ci
      have eb := rd_S B j cj
      have da := List.drop_eq_getElem_cons ci
      have db := List.drop_eq_getElem_cons cj
      have na := nf_drop nA i
      have nb := nf_drop nB j
      rw [da] at na
      rw [db] at nb
      have pa := na.2 A[i] List.mem_cons_self
      have pb := nb.2 B[j] List.mem_cons_self
      have qa := (isP_iff _).1 pa
      have qb := (isP_iff _).1 pb
      have hm : mn A[i].f1 B[j].f1 = if B[j].f1 < A[i].f1 then B[j].f1 else A[i].f1 := rfl
      generalize hN : (if mx A[i].f0 B[j].f0 < mn A[i].f1 B[j].f1 then [(⟨mx A[i].f0 B[j].f0, mn A[i].f1 B[j].f1⟩ : S33)] else []) = N
      have hNl : N.length ≤ 1 := by rw [← hN]; split <;> simp
      have hNr : ∀ r : List S33, N ++ r = if mx A[i].f0 B[j].f0 < mn A[i].f1 B[j].f1 then (⟨mx A[i].f0 B[j].f0, mn A[i].f1 B[j].f1⟩ : S33) :: r else r := by intro r; rw [← hN]; split <;> rfl
      -- the first two steps
      have first : ∀ x, Ev (fun k => if A[i].f1 < B[j].f1 then wageofficeref04_Meet.l0 k A B (out ++ N) ((i + 1 : Nat) : Int) (j : Int) else wageofficeref04_Meet.l0 k A B (out ++ N) (i : Int) ((j + 1 : Nat) : Int)) x → Ev (fun k => wageofficeref04_Meet.l0 k A B out (i : Int) (j : Int)) x := by
        intro x h
        refine Ev.step (f := fun k => wageofficeref04_Meet.j1 k A B out (i : Int) (j : Int) true) (fun k => ?_) ?_
        · simp only [wageofficeref04_Meet.l0]
          rw [if_pos (by omega), decide_eq_true (by omega)]
        · refine Ev.step (fun k => ?_) h
          simp only [wageofficeref04_Meet.j1, ea, eb, w1, w2]
          rw [if_pos trivial, if_pos (by omega), if_pos (by omega), if_pos (by omega), if_pos (by omega)]
          by_cases q : mx A[i].f0 B[j].f0 < mn A[i].f1 B[j].f1
          · rw [if_pos q, if_pos (by omega)]
            rw [if_pos q] at hN
            rw [← hN]
            rfl
          · rw [if_neg q]
            rw [if_neg q] at hN
            rw [← hN, List.append_nil]
      by_cases c : A[i].f1 < B[j].f1
      · obtain ⟨r, e1, e2, e3, e4⟩ := ih (i + 1) j (out ++ N) (by omega) h2 (by omega) (by rw [List.length_append]; omega)
        rw [List.append_assoc] at e1
        obtain ⟨f1, f2⟩ := meet_add pa pb e2 (fun n hn => by
          rw [e3, Bool.and_eq_true] at hn
          have := nf_next na n hn.1
          rw [hm]; split <;> omega)
        rw [← hNr] at f1
        refine ⟨N ++ r, first _ (ev_if c e1), f1, fun n => ?_, by rw [List.length_append]; omega⟩
        rw [hNr, f2, e3, da, db, mem_cons, mem_cons]
        have k1 : inS n A[i] = true → mem (B.drop (j + 1)) n = false := by
          intro h
          rw [inS_p pa] at h
          cases q : mem (B.drop (j + 1)) n
          · rfl
          · have := nf_next nb n q
            omega
        cases h : inS n A[i]
        · rw [Bool.false_and, Bool.false_or, Bool.false_or]
        · rw [k1 h]
          cases inS n B[j] <;> cases mem (A.drop (i + 1)) n <;> rfl
      · obtain ⟨r, e1, e2, e3, e4⟩ := ih i (j + 1) (out ++ N) h1 (by omega) (by omega) (by rw [List.length_append]; omega)
        rw [List.append_assoc] at e1
        obtain ⟨f1, f2⟩ := meet_add pa pb e2 (fun n hn => by
          rw [e3, Bool.and_eq_true] at hn
          have := nf_next nb n hn.2
          rw [hm]; split <;> omega)
        rw [← hNr] at f1
        refine ⟨N ++ r, first _ (ev_else c e1), f1, fun n => ?_, by rw [List.length_append]; omega⟩
        rw [hNr, f2, e3, da, db, mem_cons, mem_cons]
        have k1 : inS n B[j] = true → mem (A.drop (i + 1)) n = false := by
          intro h
          rw [inS_p pb] at h
          cases q : mem (A.drop (i + 1)) n
          · rfl
          · have := nf_next na n q
            omega
        cases h : inS n B[j]
        · rw [Bool.and_false, Bool.false_or, Bool.false_or]
        · rw [k1 h]
          cases inS n A[i] <;> cases mem (B.drop (j + 1)) n <;> rfl
    · refine ⟨[], ?_, ⟨List.Pairwise.nil, fun s hs => by cases hs⟩, fun n => ?_, Nat.zero_le _⟩
      · rw [List.append_nil]
        refine Ev.step (f := fun k => wageofficeref04_Meet.j1 k A B out (i : Int) (j : Int) false) (fun k => ?_) ?_
        · simp only [wageofficeref04_Meet.l0]
          by_cases ci : (i : Int) < (A.length : Int)
          · rw [if_pos ci, decide_eq_false (by omega)]
          · rw [if_neg ci]
        · refine Ev.step (f := fun _ => some out) (fun k => ?_) (Ev.now _)
          simp only [wageofficeref04_Meet.j1]
          rw [if_neg (by simp)]
      · by_cases ci : i < A.length
        · rw [show List.drop j B = [] from List.drop_eq_nil_of_le (by omega), show mem [] n = false from rfl, Bool.and_false]
        · rw [show List.drop i A = [] from List.drop_eq_nil_of_le (by omega)]
          rfl
theorem runion_spec (a b : List S33) (ha : a.length ≤ 10000) (hb : b.length ≤ 10000) : ∃ r, Ev (fun k => wageofficeref04_Union.f k a b) r ∧ NF r ∧ (∀ n, mem r n = (mem a n || mem b n)) := by
  obtain ⟨r, h1, h2, h3, _⟩ := rnormal_spec (a ++ b) (by rw [List.length_append]; omega)
  refine ⟨r, ?_, h2, fun n => by rw [h3, mem_append]⟩
  unfold wageofficeref04_Union.f
  refine ev_if (by simp only [List.length_nil]; omega) ?_
  refine ev_const rfl ?_
  simp only [List.nil_append]
  refine ev_if (by omega) ?_
  refine Ev.bind h1 ?_
  exact Ev.now _
theorem rmeet_spec (a b : List S33) (ha : a.length ≤ 10000) (hb : b.length ≤ 10000) : ∃ r, Ev (fun k => wageofficeref04_Meet.f k a b) r ∧ NF r ∧ (∀ n, mem r n = (mem a n && mem b n)) := by
  obtain ⟨A, a1, a2, a3, a4⟩ := rnormal_spec a (by omega)
  obtain ⟨B, b1, b2, b3, b4⟩ := rnormal_spec b (by omega)
  obtain ⟨r, h1, h2, h3, _⟩ := rmeet_loop A B a2 b2 (by omega) (by omega) _ 0 0 [] (Nat.zero_le _) (Nat.zero_le _) rfl (Nat.le_refl _)
  refine ⟨r, ?_, h2, fun n => by rw [h3, List.drop_zero, List.drop_zero, a3, b3]⟩
  unfold wageofficeref04_Meet.f
  exact Ev.bind a1 (Ev.bind b1 h1)
theorem mem_range {l : List S33} {n : Int} (h : mem l n = true) : -1152921504606846976 ≤ n ∧ n < 1152921504606846976 := by
  obtain ⟨s, hs, hi⟩ := List.any_eq_true.1 h
  have := (inS_iff n s).1 hi
  have q := (isP_iff s).1 this.1
  omega
theorem rminus_loop (a T : List S33) (nT : NF T) (hl : T.length ≤ 10000) : ∀ (d i : Nat) (out : List S33) (frm : Int), i ≤ T.length → T.length - i = d → out.length ≤ i → -1152921504606846976 ≤ frm → frm ≤ 1152921504606846976 → (∀ t ∈ T.drop i, frm ≤ t.f0) →
    ∃ c, (∀ m, Ev (fun k => wageofficeref04_Meet.f k a (out ++ c)) m → Ev (fun k => wageofficeref04_Minus.l0 k a T out frm (i : Int)) m) ∧ (∀ n, mem c n = (decide (frm ≤ n) && decide (n < 1152921504606846976) && !mem (T.drop i) n)) ∧ c.length ≤ d + 1 := by
  intro d
  induction d with
  | zero =>
    intro i out frm h1 h2 h3 h4 h5 h6
    by_cases c : frm < 1152921504606846976
    · refine ⟨[⟨frm, 1152921504606846976⟩], fun m hm => ?_, fun n => ?_, Nat.le_refl _⟩
      · refine Ev.step (f := fun k => (wageofficeref04_Meet.f k a (out ++ [(⟨frm, 1152921504606846976⟩ : S33)])).bind fun t => some t) (fun k => ?_) (Ev.bind hm (Ev.now _))
        simp only [wageofficeref04_Minus.l0]
        rw [if_neg (by omega), if_pos c, if_pos (by omega)]
      · have p : isP (⟨frm, 1152921504606846976⟩ : S33) = true := by rw [isP_iff]; simp only; omega
        rw [mem_one, List.drop_eq_nil_of_le (by omega), show mem [] n = false from rfl, Bool.not_false, Bool.and_true, Bool.eq_iff_iff, inS_p p, Bool.and_eq_true, decide_eq_true_eq, decide_eq_true_eq]
    · refine ⟨[], fun m hm => ?_, fun n => ?_, Nat.zero_le _⟩
      · rw [List.append_nil] at hm
        refine Ev.step (f := fun k => (wageofficeref04_Meet.f k a out).bind fun t => some t) (fun k => ?_) (Ev.bind hm (Ev.now _))
        simp only [wageofficeref04_Minus.l0]
        rw [if_neg (by omega), if_neg c]
      · rw [show mem [] n = false from rfl]
        by_cases q : frm ≤ n
        · rw [decide_eq_false (p := n < 1152921504606846976) (by omega), Bool.and_false]
          rfl
        · rw [decide_eq_false q]
          rfl
  | succ d ih =>
    intro i out frm h1 h2 h3 h4 h5 h6
    have hi : i < T.length := by omega
    have w1 : wrap64 ((i : Int) + 1) = ((i + 1 : Nat) : Int) := by unfold wrap64; omega
    have er := rd_S T i hi
    have hd := List.drop_eq_getElem_cons hi
    have nt := nf_drop nT i
    rw [hd] at nt h6
    have pt := nt.2 T[i] List.mem_cons_self
    have qt := (isP_iff _).1 pt
    have hx := h6 T[i] List.mem_cons_self
    have hnext : ∀ t ∈ T.drop (i + 1), T[i].f1 ≤ t.f0 := fun t ht => Int.le_of_lt ((List.pairwise_cons.1 nt.1).1 t ht)
    by_cases c : frm < T[i].f0
    · obtain ⟨s, e1, e2, e3⟩ := ih (i + 1) (out ++ [(⟨frm, T[i].f0⟩ : S33)]) T[i].f1 (by omega) (by omega) (by rw [List.length_append, List.length_singleton]; omega) (by omega) (by omega) hnext
      refine ⟨⟨frm, T[i].f0⟩ :: s, fun m hm => ?_, fun n => ?_, by rw [List.length_cons]; omega⟩
      · refine Ev.step (fun k => ?_) (e1 m (by rw [List.append_assoc]; exact hm))
        simp only [wageofficeref04_Minus.l0, er, w1]
        rw [if_pos (by omega), if_pos (by omega), if_pos c, if_pos (by omega)]
      · have p : isP (⟨frm, T[i].f0⟩ : S33) = true := by rw [isP_iff]; simp only; omega
        rw [mem_cons, e2, hd, mem_cons, Bool.eq_iff_iff]
        have k1 : mem (T.drop (i + 1)) n = true → T[i].f1 < n := nf_next nt n
        simp only [Bool.or_eq_true, Bool.and_eq_true, decide_eq_true_eq, inS_p p, Bool.not_eq_true', Bool.or_eq_false_iff]
        constructor
        · rintro (⟨u, v⟩ | ⟨⟨u, v⟩, x⟩)
          · refine ⟨⟨u, by omega⟩, ?_, ?_⟩
            · cases q : inS n T[i]
              · rfl
              · rw [inS_p pt] at q; omega
            · cases q : mem (T.drop (i + 1)) n
              · rfl
              · have := k1 q; omega
          · refine ⟨⟨by omega, v⟩, ?_, x⟩
            cases q : inS n T[i]
            · rfl
            · rw [inS_p pt] at q; omega
        · rintro ⟨⟨u, v⟩, x, y⟩
          by_cases z : n < T[i].f0
          · exact .inl ⟨u, z⟩
          · refine .inr ⟨⟨?_, v⟩, y⟩
            have : ¬ (T[i].f0 ≤ n ∧ n < T[i].f1) := by rw [← inS_p pt, x]; simp
            omega
    · obtain ⟨s, e1, e2, e3⟩ := ih (i + 1) out T[i].f1 (by omega) (by omega) (by omega) (by omega) (by omega) hnext
      refine ⟨s, fun m hm => ?_, fun n => ?_, by omega⟩
      · refine Ev.step (fun k => ?_) (e1 m hm)
        simp only [wageofficeref04_Minus.l0, er, w1]
        rw [if_pos (by omega), if_pos (by omega), if_neg c]
      · rw [e2, hd, mem_cons, Bool.eq_iff_iff]
        simp only [Bool.and_eq_true, decide_eq_true_eq, Bool.not_eq_true', Bool.or_eq_false_iff]
        constructor
        · rintro ⟨⟨u, v⟩, x⟩
          refine ⟨⟨by omega, v⟩, ?_, x⟩
          cases q : inS n T[i]
          · rfl
          · rw [inS_p pt] at q; omega
        · rintro ⟨⟨u, v⟩, x, y⟩
          refine ⟨⟨?_, v⟩, y⟩
          have : ¬ (T[i].f0 ≤ n ∧ n < T[i].f1) := by rw [← inS_p pt, x]; simp
          omega
theorem rminus_spec (a b : List S33) (ha : a.length ≤ 9000) (hb : b.length ≤ 9000) : ∃ r, Ev (fun k => wageofficeref04_Minus.f k a b) r ∧ NF r ∧ (∀ n, mem r n = (mem a n && !mem b n)) := by
  obtain ⟨T, t1, t2, t3, t4⟩ := rnormal_spec b (by omega)
  obtain ⟨c, e1, e2, e3⟩ := rminus_loop a T t2 (by omega) _ 0 [] (-1152921504606846976) (Nat.zero_le _) rfl (Nat.le_refl _) (by omega) (by omega) (fun t ht => nf_low t2 t (by simpa using ht))
  obtain ⟨r, h1, h2, h3⟩ := rmeet_spec a ([] ++ c) (by omega) (by rw [List.nil_append]; omega)
  refine ⟨r, ?_, h2, fun n => ?_⟩
  · unfold wageofficeref04_Minus.f
    exact Ev.bind t1 (e1 r h1)
  · rw [h3, List.nil_append, e2, List.drop_zero, t3]
    cases q : mem a n
    · rfl
    · have := mem_range q
      rw [decide_eq_true this.1, decide_eq_true this.2]
      rfl
theorem rhas_loop (l : List S33) (x : Int) (hl : l.length ≤ 100000) : ∀ (d i : Nat), i ≤ l.length → l.length - i = d → Ev (fun k => wageofficeref04_Has.l0 k l x (i : Int)) (mem (l.drop i) x) := by
  intro d
  induction d with
  | zero =>
    intro i h1 h2
    refine Ev.step (f := fun _ => some false) (fun k => ?_) ?_
    · simp only [wageofficeref04_Has.l0]
      rw [if_neg (by omega)]
    · rw [List.drop_eq_nil_of_le (by omega)]
      exact Ev.now _
  | succ d ih =>
    intro i h1 h2
    have hi : i < l.length := by omega
    have w1 : wrap64 ((i : Int) + 1) = ((i + 1 : Nat) : Int) := by unfold wrap64; omega
    have er := rd_S l i hi
    have h := ih (i + 1) (by omega) (by omega)
    rw [List.drop_eq_getElem_cons hi, mem_cons]
    cases p : isP l[i] with
    | false =>
      rw [inS_bad p, Bool.false_or]
      refine Ev.step (fun k => ?_) h
      simp only [wageofficeref04_Has.l0, er, w1, proper_R, p, Option.bind_some]
      rw [if_pos (by omega), if_pos (by omega), if_neg (by simp)]
    | true =>
      by_cases c1 : l[i].f0 ≤ x
      · by_cases c2 : x < l[i].f1
        · rw [(inS_p p x).2 ⟨c1, c2⟩, Bool.true_or]
          refine Ev.step (f := fun _ => some true) (fun k => ?_) (Ev.now _)
          simp only [wageofficeref04_Has.l0, er, w1, proper_R, p, Option.bind_some]
          rw [if_pos (by omega), if_pos (by omega), if_pos trivial, if_pos c1, if_pos c2]
        · rw [show inS x l[i] = false from by cases q : inS x l[i]; rfl; rw [inS_p p] at q; omega, Bool.false_or]
          refine Ev.step (fun k => ?_) h
          simp only [wageofficeref04_Has.l0, er, w1, proper_R, p, Option.bind_some]
          rw [if_pos (by omega), if_pos (by omega), if_pos trivial, if_pos c1, if_neg c2]
      · rw [show inS x l[i] = false from by cases q : inS x l[i]; rfl; rw [inS_p p] at q; omega, Bool.false_or]
        refine Ev.step (fun k => ?_) h
        simp only [wageofficeref04_Has.l0, er, w1, proper_R, p, Option.bind_some]
        rw [if_pos (by omega), if_pos (by omega), if_pos trivial, if_neg c1]
theorem rhas_spec (l : List S33) (x : Int) (hl : l.length ≤ 100000) : Ev (fun k => wageofficeref04_Has.f k l x) (mem l x) := by
  have := rhas_loop l x hl _ 0 (Nat.zero_le _) rfl
  rw [List.drop_zero] at this
  exact this
theorem rsize_loop (r : List S33) (hr : NF r) (hl : r.length ≤ 100000000) : ∀ (d i : Nat) (x : Int), i ≤ r.length → r.length - i = d → x + size (r.drop i) ≤ 2305843009213693952 → 0 ≤ x → Ev (fun k => wageofficeref04_Size.l0 k r x (i : Int)) (x + size (r.drop i)) := by
  intro d
  induction d with
  | zero =>
    intro i x h1 h2 h3 h4
    refine Ev.step (f := fun _ => some x) (fun k => ?_) ?_
    · simp only [wageofficeref04_Size.l0]
      rw [if_neg (by omega)]
    · rw [List.drop_eq_nil_of_le (by omega)]
      have : x + size [] = x := by simp [size]
      rw [this]
      exact Ev.now _
  | succ d ih =>
    intro i x h1 h2 h3 h4
    have hi : i < r.length := by omega
    have w1 : wrap64 ((i : Int) + 1) = ((i + 1 : Nat) : Int) := by unfold wrap64; omega
    have hs := size_drop r i hi
    have hp := (isP_iff r[i]).1 (hr.2 _ (List.getElem_mem hi))
    have hn := nf_size' (nf_drop hr (i + 1))
    have w2 : wrap64 (x + wrap64 (r[i].f1 - r[i].f0)) = x + (r[i].f1 - r[i].f0) := by unfold wrap64; omega
    have e : x + size (r.drop i) = (x + (r[i].f1 - r[i].f0)) + size (r.drop (i + 1)) := by omega
    rw [e]
    refine Ev.step (fun k => ?_) (ih (i + 1) (x + (r[i].f1 - r[i].f0)) (by omega) (by omega) (by omega) (by omega))
    simp only [wageofficeref04_Size.l0, rd_S r i hi, w1, w2]
    rw [if_pos (by omega), if_pos (by omega)]
theorem rvalid_loop (l : List S33) (hl : l.length ≤ 100000) : ∀ (d i : Nat), i ≤ l.length → l.length - i = d → NF (l.take i) → ∃ b, Ev (fun k => wageofficeref04_Valid.l0 k l (i : Int)) b ∧ (b = true ↔ NF l) := by
  intro d
  induction d with
  | zero =>
    intro i h1 h2 h3
    rw [List.take_of_length_le (by omega)] at h3
    refine ⟨true, ?_, ⟨fun _ => h3, fun _ => rfl⟩⟩
    refine Ev.step (f := fun _ => some true) (fun k => ?_) (Ev.now _)
    simp only [wageofficeref04_Valid.l0]
    rw [if_neg (by omega)]
  | succ d ih =>
    intro i h1 h2 h3
    have hi : i < l.length := by omega
    have w1 : wrap64 ((i : Int) + 1) = ((i + 1 : Nat) : Int) := by unfold wrap64; omega
    have er := rd_S l i hi
    have ht := List.take_succ_eq_append_getElem hi
    cases p : isP l[i] with
    | false =>
      refine ⟨false, ?_, ⟨fun h => Bool.noConfusion h, fun h => ?_⟩⟩
      · refine Ev.step (f := fun _ => some false) (fun k => ?_) (Ev.now _)
        simp only [wageofficeref04_Valid.l0, er, w1, proper_R, p, Option.bind_some]
        rw [if_pos (by omega), if_pos (by omega), if_neg (by simp)]
      · have := h.2 l[i] (List.getElem_mem hi)
        rw [p] at this
        cases this
    | true =>
      by_cases z : i = 0
      · subst z
        obtain ⟨b, e1, e2⟩ := ih 1 (by omega) (by omega) (by rw [ht, nf_snoc]; exact ⟨h3, p, fun t ht => by simp at ht⟩)
        refine ⟨b, ?_, e2⟩
        refine Ev.step (fun k => ?_) e1
        simp only [wageofficeref04_Valid.l0, er, w1, proper_R, p, Option.bind_some]
        rw [if_pos (by omega), if_pos (by omega), if_pos trivial, if_neg (by omega)]
      · have w2 : wrap64 ((i : Int) - 1) = ((i - 1 : Nat) : Int) := by unfold wrap64; omega
        have hj : i - 1 < l.length := by omega
        have e2 := rd_S l (i - 1) hj
        by_cases c : l[i - 1].f1 ≥ l[i].f0
        · refine ⟨false, ?_, ⟨fun h => Bool.noConfusion h, fun h => ?_⟩⟩
          · refine Ev.step (f := fun _ => some false) (fun k => ?_) (Ev.now _)
            simp only [wageofficeref04_Valid.l0, er, w1, w2, e2, proper_R, p, Option.bind_some]
            rw [if_pos (by omega), if_pos (by omega), if_pos trivial, if_pos (by omega), if_pos (by omega), if_pos (by omega), if_pos c]
          · have := (List.pairwise_iff_getElem.1 h.1) (i - 1) i hj hi (by omega)
            omega
        · have htj : l.take i = l.take (i - 1) ++ [l[i - 1]] := by
            have := List.take_succ_eq_append_getElem hj
            rw [show i - 1 + 1 = i by omega] at this
            exact this
          have hz := h3
          rw [htj, nf_snoc] at hz
          have qz := (isP_iff _).1 hz.2.1
          obtain ⟨b, e1, e3⟩ := ih (i + 1) (by omega) (by omega) (by
            rw [ht, nf_snoc]
            refine ⟨h3, p, fun t ht => ?_⟩
            rw [htj] at ht
            rcases List.mem_append.1 ht with ht | ht
            · have := hz.2.2 t ht
              omega
            · rw [List.mem_singleton.1 ht]; omega)
          refine ⟨b, ?_, e3⟩
          refine Ev.step (fun k => ?_) e1
          simp only [wageofficeref04_Valid.l0, er, w1, w2, e2, proper_R, p, Option.bind_some]
          rw [if_pos (by omega), if_pos (by omega), if_pos trivial, if_pos (by omega), if_pos (by omega), if_pos (by omega), if_neg c]
theorem rvalid_spec (l : List S33) (hl : l.length ≤ 100000) : ∃ b, Ev (fun k => wageofficeref04_Valid.f k l) b ∧ (b = true ↔ NF l) :=
  rvalid_loop l hl _ 0 (Nat.zero_le _) rfl ⟨List.Pairwise.nil, fun s hs => by simp at hs⟩
end Go.Proofs.Ytgplnfhpeeifjaa.Q

namespace Go.Proofs.YtgplnfhpeeifjaaW.PrintLast
open Go Go.RowKit Go.Proofs.YtgplnfhpeeifjaaW.PrintWords
section
variable {H : Type} {enc : TypeId × Value → H} {P : Program} {w : World} {spare : Nat → Bool} {held : Bool} {α : Type} {t e : TypeId}
def Opens (enc : TypeId × Value → H) (P : Program) (w : World) (spare : Nat → Bool) (held : Bool) (t : TypeId) (d : Kd α) (ok : α → Prop) : Prop :=
  ∀ (fuel : Nat) (cs : List Value) (x : DataW H × List MemPlace), DataW.trod enc P w 0 spare held fuel t cs = some x → ∃ y, d.K w y cs ∧ ok y
theorem Opens.int {k : IntKind} (ht : P.underlying t = some (.int k)) : Opens enc P w spare held t (Kd.int k) (fun x => (Lit.int k x).wf = true) := by
  intro fuel cs x h
  obtain ⟨n, rfl, _, hw⟩ := DataW.trod_int ht h
  exact ⟨n, rfl, hw⟩
theorem Opens.bool (ht : P.underlying t = some .bool) : Opens enc P w spare held t Kd.bool (fun _ => True) := by
  intro fuel cs x h
  obtain ⟨n, rfl, _⟩ := DataW.trod_bool ht h
  exact ⟨n, rfl, trivial⟩
theorem cut_ (cs : List Value) (o s : Nat) : cs.drop o = (cs.drop o).take s ++ cs.drop (o + s) := by
  rw [← List.drop_drop, List.take_append_drop]
theorem cut_last (cs : List Value) (o s : Nat) (h : cs.length = o + s) : cs.drop o = (cs.drop o).take s := (List.take_of_length_le (by rw [List.length_drop]; omega)).symm
theorem Opens.slice {d : Kd α} {ok : α → Prop} (ht : P.underlying t = some (.slice e)) (hsz : P.cellsOf e = d.sz) (hd : Opens enc P w spare held e d ok) :
    Opens enc P w spare held t (Kd.slice e d) (fun l => (∀ x ∈ l, ok x) ∧ l.length ≤ maxLen) := by
  intro fuel cs x hx
  rcases Go.Deep.open_slice ht hx with ⟨rfl, _⟩ | ⟨a, len, cap, m, n, D, Pl, rfl, hb, hl, hm, hmm, _, hel⟩
  · exact ⟨[], ⟨none, 0, rfl, Nat.le_refl _, Kd.C_nil d w⟩, by simp, by simp⟩
  · have hlm : len ≤ m := by rw [hmm]; split <;> omega
    have key : ∀ n', n' ≤ len → ∃ l : List α, l.length = n' ∧ ∀ i y, l[i]? = some y → (∃ c, c.length = d.sz ∧ d.K w y c ∧ ∀ j u, c[j]? = some u → w.cell? (a.add (i * d.sz + j)) = some u) ∧ ok y := by
      intro n'
      induction n' with
      | zero => exact fun _ => ⟨[], rfl, fun i y h => by simp at h⟩
      | succ n' ih =>
        intro hn
        obtain ⟨l, hll, hle⟩ := ih (by omega)
        obtain ⟨cs', h1, h2⟩ := hel n' (by omega)
        obtain ⟨y, hK, hok⟩ := hd _ _ _ h2
        obtain ⟨_, hcl, hcell⟩ := World.cells?_some h1
        refine ⟨l ++ [y], by rw [List.length_append, hll]; rfl, fun i z hz => ?_⟩
        rcases Nat.lt_or_ge i l.length with hi | hi
        · exact hle i z (by rwa [List.getElem?_append_left hi] at hz)
        · have hi2 : i = n' := by
            have := (List.getElem?_eq_some_iff.1 hz).1
            rw [List.length_append, List.length_singleton] at this
            omega
          subst hi2
          have hzy : y = z := by
            rw [List.getElem?_append_right (by omega), hll, Nat.sub_self] at hz
            simpa using hz
          subst hzy
          refine ⟨⟨cs', by rw [hcl, hsz], hK, fun j u hu => ?_⟩, hok⟩
          have hj : j < cs'.length := (List.getElem?_eq_some_iff.1 hu).1
          have := hcell j (by rw [← hcl]; exact hj)
          rw [Go.Deep.add_add, hsz] at this
          rw [this, hu]
    obtain ⟨l, hll, hle⟩ := key len (Nat.le_refl _)
    refine ⟨l, ⟨some a, cap, by rw [hll], by omega, rfl, by rw [hll]; have := hm; unfold maxLen at this; omega, fun _ => ⟨a, rfl, fun j p hp => (hle j p hp).1⟩⟩, fun y hy => ?_, by rw [hll]; omega⟩
    obtain ⟨i, hi⟩ := List.getElem?_of_mem hy
    exact (hle i y hi).2
theorem open_row {d : Kd α} {ok : α → Prop} {r : Reach} {b0 : Nat} {v : Value} {dd : DataW H} {p : List MemPlace} (ht : P.underlying t = some (.slice e)) (hsz : P.cellsOf e = d.sz) (hd : Opens enc P w spare held e d ok)
    (hv : Value.okWide P w r b0 t v) (h : DataW.Trod enc P w 0 spare held t v dd p) : ∃ (A : Option Addr) (l : List α) (c : Nat), v = .slice A l.length c ∧ l.length ≤ c ∧ d.C w A l.length l ∧ (∀ x ∈ l, ok x) ∧ l.length ≤ maxLen := by
  obtain ⟨a, len, cap, rfl⟩ := Go.WideShapes.okWide_slice ht hv
  obtain ⟨fuel, hf⟩ := h
  obtain ⟨l, ⟨A, c, hcs, hc, hC⟩, hok, hl⟩ := Opens.slice ht hsz hd _ _ _ hf
  simp only [Value.cells, List.cons.injEq, Value.slice.injEq, and_true] at hcs
  obtain ⟨rfl, rfl, rfl⟩ := hcs
  exact ⟨_, l, _, rfl, hc, hC, hok, hl⟩
end
end Go.Proofs.YtgplnfhpeeifjaaW.PrintLast

namespace Go.Proofs.Ytgplnfhpeeifjaa.Q
open Go Go.RowKit Go.Proofs.YtgplnfhpeeifjaaW.PrintWords Go.Proofs.YtgplnfhpeeifjaaW.PrintLast
def ok33 (x : S33) : Prop := ((Lit.int .i64 x.f0).wf = true) ∧ ((Lit.int .i64 x.f1).wf = true)
theorem opens33 {H : Type} {enc : TypeId × Value → H} {w : World} {spare : Nat → Bool} {held : Bool} : Opens enc Try.prog w spare held 33 k33 ok33 := by
  intro fuel cs x h
  obtain ⟨xs, n, _, _, hl, hlen, hf⟩ := DataW.trod_struct Try.underlying33 h
  have hl : cs.length = 2 := hl.trans (by kernel_rfl)
  have hlen : xs.length = 2 := hlen
  match xs, hlen with
  | [x0, x1], _ =>
    have c0 : Try.prog.cellsOf 3 = 1 := by kernel_rfl
    have h0 : DataW.trod enc Try.prog w 0 spare held n 3 ((cs.drop 0).take 1) = some x0 := by
      have q : DataW.trod enc Try.prog w 0 spare held n 3 ((cs.drop 0).take (Try.prog.cellsOf 3)) = some x0 := hf 0 _ rfl
      rw [c0] at q
      exact q
    obtain ⟨y0, K0, g0⟩ := (Opens.int Try.underlying3) _ _ _ h0
    have c1 : Try.prog.cellsOf 3 = 1 := by kernel_rfl
    have h1 : DataW.trod enc Try.prog w 0 spare held n 3 ((cs.drop 1).take 1) = some x1 := by
      have q : DataW.trod enc Try.prog w 0 spare held n 3 ((cs.drop 1).take (Try.prog.cellsOf 3)) = some x1 := hf 1 _ rfl
      rw [c1] at q
      exact q
    obtain ⟨y1, K1, g1⟩ := (Opens.int Try.underlying3) _ _ _ h1
    have el := cut_last cs 1 1 (by rw [hl])
    exact ⟨⟨y0, y1⟩, ⟨_, _, (cut_ cs 0 1), K0, (by rw [el]; exact K1)⟩, g0, g1⟩
theorem heap_33 : Kd.Heap k33 := k33_heap
end Go.Proofs.Ytgplnfhpeeifjaa.Q

namespace Go.Proofs.Ytgplnfhpeeifjaa.Q
open Go Go.RowKit Go.Proofs.YtgplnfhpeeifjaaW.PrintWords Go.Proofs.YtgplnfhpeeifjaaW.PrintLast Go.Proofs.YtgplnfhpeeifjaaW.PrintMore
set_option linter.unusedVariables false
set_option linter.unusedSimpArgs false
theorem SpanMatchesReference_pure (l0 l1 : List S33) (a2 : Int) (h0 : ∀ x ∈ l0, ok33 x) (hm0 : l0.length ≤ maxLen) (h1 : ∀ x ∈ l1, ok33 x) (hm1 : l1.length ≤ maxLen) (h2 : (Lit.int .i64 a2).wf = true) :
    Ev (fun k => wageofficelaw04_SpanMatchesReference.f k l0 l1 a2) true := by
  unfold wageofficelaw04_SpanMatchesReference.f
  refine Ev.bind head_true ?_
  refine Ev.bind (short_spec [l0, l1] (by simp)) ?_
  by_cases hs : ([l0, l1].all fun l => decide (l.length ≤ 60)) = true
  · refine ev_if hs ?_
    simp only [List.all_cons, List.all_nil, Bool.and_true, Bool.and_eq_true, decide_eq_true_eq] at hs
    have s0 : small l0 := small_of hs.1
    have s1 : small l1 := small_of hs.2
    refine ev_if rfl ?_
    obtain ⟨v, hv, ev⟩ := rvalid_spec l0 (by omega)
    have hv2 : Ev (fun k => span_Valid.f k l0) v := by
      by_cases q : NF l0
      · rw [ev.2 q]
        exact valid_yes s0 q
      · have : v = false := by
          cases hvv : v
          · rfl
          · exact absurd (ev.1 hvv) q
        rw [this]
        exact valid_no s0 q
    refine Ev.bind hv2 ?_
    refine Ev.bind hv ?_
    refine ev_if (by simp) ?_
    obtain ⟨n, hn, nn, mn_, ln⟩ := normal_spec l0 s0
    obtain ⟨rn, hrn, nrn, mrn, _⟩ := rnormal_spec l0 (by omega)
    have en : n = rn := nf_unique n rn nn nrn (fun x => by rw [mn_, mrn])
    refine Ev.bind hn ?_
    refine Ev.bind hrn ?_
    refine Ev.bind (same_is en (by omega)) ?_
    refine ev_if rfl ?_
    obtain ⟨u, hu, nu, mu, lu⟩ := union_spec l0 l1 s0 s1
    obtain ⟨ru, hru, nru, mru⟩ := runion_spec l0 l1 (by omega) (by omega)
    refine Ev.bind hu ?_
    refine Ev.bind hru ?_
    refine Ev.bind (same_is (nf_unique u ru nu nru (fun x => by rw [mu, mru])) (by omega)) ?_
    refine ev_if rfl ?_
    obtain ⟨m, hm, nm, mm, lm⟩ := meet_spec l0 l1 s0 s1
    obtain ⟨rm, hrm, nrm, mrm⟩ := rmeet_spec l0 l1 (by omega) (by omega)
    refine Ev.bind hm ?_
    refine Ev.bind hrm ?_
    refine Ev.bind (same_is (nf_unique m rm nm nrm (fun x => by rw [mm, mrm])) (by omega)) ?_
    refine ev_if rfl ?_
    obtain ⟨d, hd, nd, md, ld⟩ := minus_spec l0 l1 s0 s1
    obtain ⟨rd, hrd, nrd, mrd⟩ := rminus_spec l0 l1 (by omega) (by omega)
    refine Ev.bind hd ?_
    refine Ev.bind hrd ?_
    refine Ev.bind (same_is (nf_unique d rd nd nrd (fun x => by rw [md, mrd])) (by omega)) ?_
    refine ev_if rfl ?_
    refine ev_const (has_spec l0 a2 s0) ?_
    refine Ev.bind (rhas_spec l0 a2 (by omega)) ?_
    refine ev_if (by simp) ?_
    refine Ev.bind (size_spec l0 n s0 nn mn_) ?_
    have hsz : Ev (fun k => wageofficeref04_Size.f k l0) (size n) := by
      have := nf_size' nn
      have := rsize_loop n nn (by omega) _ 0 0 (Nat.zero_le _) rfl (by rw [List.drop_zero]; omega) (Int.le_refl _)
      rw [List.drop_zero, Int.zero_add] at this
      unfold wageofficeref04_Size.f
      rw [← en] at hrn
      exact Ev.bind hrn this
    refine Ev.bind hsz ?_
    refine Ev.congr (f := fun _ => some true) (fun k => ?_) (Ev.now _)
    simp
  · exact ev_else hs (Ev.now _)
end Go.Proofs.Ytgplnfhpeeifjaa.Q

namespace Go.Proofs.Ytgplnfhpeeifjaa.spanMatchesReference
open Go.ChangeShapes Go.WideShapes Go.ChangeAt Go.RowKit
open Go.ChangeMaps (open_string shut_string)
open Go.Proofs.YtgplnfhpeeifjaaW.PrintWords Go.Proofs.YtgplnfhpeeifjaaW.PrintLast Go.Proofs.Ytgplnfhpeeifjaa.Q
set_option linter.unusedVariables false
theorem own : ownKnob Try.prog.godebug = none := by kernel_rfl
theorem laidOut : laidOutB Try.prog = true := by kernel_rfl
set_option maxRecDepth 100000 in
theorem lifted (os : Os) (started : os.Started) (H : Type) (enc : TypeId × Value → H) :
    ReturnsInHanded {} Try.checked os 3 .any (Rows.spanMatchesReferenceSpec.pre6 enc Try.prog Try.f3 Rows.spanMatchesReferenceRow.domain false) (Rows.spanMatchesReferenceSpec.post enc Try.prog Try.f3 false true false false) := by
  refine returnsInHanded_of_change_sized (C := Try.checked) own started (by kernel_rfl) Try.func3
    (ChangeSpec.witness6 (enc := enc) (C := Try.checked) false ⟨#[], #[.slice none 0 0, .slice none 0 0, .int .i64 0], []⟩ 8 (by kernel_rfl) (by kernel_rfl) (by kernel_rfl) (by kernel_rfl)) ?_
  intro W base args ds gs before hval0 hW hcnd hsz0 _
  have hval : ∀ (j : Nat) t v, Try.f3.params[j]? = some t → args[j]? = some v → Value.okWide Try.prog W .any base t v := hval0
  have hW' := hW
  obtain ⟨p, q, hA0, hV, rfl, hfz, hnd⟩ := hW
  have hA : DataW.TrodAll enc Try.prog W 0 (fun _ => true) true Try.f3.params.toList args.toList ds p := hA0
  rw [Try.params3] at hA hval
  obtain ⟨v0, vs0, d0, ds0, p0, q0, hargs, rfl, rfl, h0, r0⟩ := trodAll_cons hA
  obtain ⟨v1, vs1, d1, ds1, p1, q1, rfl, rfl, rfl, h1, r1⟩ := trodAll_cons r0
  obtain ⟨v2, vs2, d2, ds2, p2, q2, rfl, rfl, rfl, h2, r2⟩ := trodAll_cons r1
  obtain ⟨rfl, rfl, rfl⟩ := trodAll_nil r2
  obtain rfl : args = #[v0, v1, v2] := by cases args; simp_all
  obtain ⟨rfl, rfl⟩ := trodVars_none hV
  have k0 := h0
  have lt0 : ∀ x ∈ p0, x.block < W.heap.size := by obtain ⟨m, hm⟩ := k0; exact DataW.trod_lt m _ _ _ hm
  obtain ⟨A0, l0, c0, rfl, hc0, hr0, ok0, hm0⟩ := open_row Try.underlying22 (by kernel_rfl) opens33 (hval 0 22 v0 rfl rfl) h0
  have k1 := h1
  have lt1 : ∀ x ∈ p1, x.block < W.heap.size := by obtain ⟨m, hm⟩ := k1; exact DataW.trod_lt m _ _ _ hm
  obtain ⟨A1, l1, c1, rfl, hc1, hr1, ok1, hm1⟩ := open_row Try.underlying22 (by kernel_rfl) opens33 (hval 1 22 v1 rfl rfl) h1
  obtain ⟨a2, rfl, rfl, rfl, ok2⟩ := open_int Try.underlying3 (hval 2 3 v2 rfl rfl) h2
  clear hA0 hval0 hsz0
  obtain ⟨k, hP⟩ := (SpanMatchesReference_pure l0 l1 a2 ok0 hm0 ok1 hm1 ok2).rounds
  refine (wageofficelaw04_SpanMatchesReference.calls k (fun k => k < W.heap.size) A0 c0 l0 (fun k => k < W.heap.size) A1 c1 l1 a2 true W ⟨A0, c0, rfl, hc0, Kd.C_F heap_33 hr0⟩ ⟨A1, c1, rfl, hc1, Kd.C_F heap_33 hr1⟩ hP).mono fun e W' ⟨he, bel0⟩ => ?_
  have bel : Below W.heap.size W W' := bel0
  subst he
  exact ⟨_, rfl, _, _, _, [], _, [], hW', trodAll_mk1 (shut_bool Try.underlying4 _), (trodAll_cons_mk (Below.trod laidOut (by kernel_rfl) (of_decide_eq_true (by kernel_rfl)) k0 bel lt0) (trodAll_cons_mk (Below.trod laidOut (by kernel_rfl) (of_decide_eq_true (by kernel_rfl)) k1 bel lt1) (trodAll_cons_mk (shut_int Try.underlying3 ok2) trodAll_mk0))), rfl, bel.frame _, fun h => by cases h⟩
theorem over : Rows.spanMatchesReferenceRow.holds Try.pinned (OpenSpec.ofChange Rows.spanMatchesReferenceSpec) :=
  OpenClaim.holds_of_wide 3 Try.f3 rfl rfl rfl rfl rfl rfl rfl ⟨rfl, rfl, rfl, rfl, rfl⟩ rfl rfl rfl rfl rfl (by kernel_rfl) Try.func3 (by kernel_rfl)
    (of_decide_eq_true (by kernel_rfl)) (by unfold Func.isWrapper; first | (rw [if_pos (by decide +kernel)]; kernel_rfl) | (rw [if_neg (by decide +kernel)]; exact ⟨rfl, rfl⟩))
    (fun os started H enc _ => lifted os started H enc)
theorem proved : Rows.SpanMatchesReferenceSaid := over
end Go.Proofs.Ytgplnfhpeeifjaa.spanMatchesReference
namespace Go.Proofs.Ytgplnfhpeeifjaa
theorem spanMatchesReference_holds : Rows.SpanMatchesReferenceSaid := spanMatchesReference.proved
end Go.Proofs.Ytgplnfhpeeifjaa
