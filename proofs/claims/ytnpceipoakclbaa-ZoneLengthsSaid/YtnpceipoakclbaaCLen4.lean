/- In a valid zone every local day other than the first two and the last two has from 1380 to 1500 minutes, as many as its local minutes have instants; for every input.
   The walk of the law's code and its plain law (merged by wip/tools/trim.py out of own texts and of texts that the kit's printer wrote). -/
import Derived.Test.YtnpceipoakclbaaCLen3
import Derived.Test.YtnpceipoakclbaaRows
import Derived.WalkKit
import Derived.ProofKit
import Derived.OpenShut
import Derived.ShutString
import Derived.ChangeOld
import Derived.Below
import Derived.SizedLaws
namespace Go.Proofs.Ytnpceipoakclbaa.Q
open Go Go.RowKit Go.Proofs.YtnpceipoakclbaaW.PrintWords Go.Proofs.YtnpceipoakclbaaW.PrintLast Go.Proofs.YtnpceipoakclbaaW.PrintMore
set_option linter.unusedVariables false
set_option linter.unusedSimpArgs false
def minSum (base : Int) (l : List Chg) (lo : Int) : Nat → Int
  | 0 => 0
  | n + 1 => minSum base l lo n + ((instR base l (lo + n)).length : Int)
theorem minSum_bd {base : Int} {l : List Chg} (hv : zvalid base l = true) (lo : Int) : ∀ n : Nat, 0 ≤ minSum base l lo n ∧ minSum base l lo n ≤ 2 * n := by
  intro n
  induction n with
  | zero => exact ⟨Int.le_refl _, Int.le_refl _⟩
  | succ n ih =>
    have := instR_two hv (lo + n)
    simp only [minSum]
    omega
theorem minSum_eq {base : Int} {l : List Chg} (hv : zvalid base l = true) {lo : Int} (h1 : 2880 ≤ lo) (h2 : lo ≤ 52593000) : ∀ n : Nat, n ≤ 1440 → minSum base l lo n = cntD base l lo (lo + n) (lo - 840) (lo + 2280) := by
  intro n
  induction n with
  | zero =>
    intro _
    unfold cntD
    rw [isum_zero (fun x _ _ => ind_no (by omega))]
    rfl
  | succ n ih =>
    intro hn
    simp only [minSum]
    rw [ih (by omega), instR_len hv (by omega) (by omega)]
    have hb := off_bd hv
    have hw := isum_window (F := fun t => ind (loc base l t = lo + n)) (A := lo - 840) (a := lo + n - 840) (b := lo + n + 841) (B := lo + 2280) (by omega) (by omega) (by omega) (fun x _ _ h => ind_no (by have := hb x; unfold loc; omega))
    rw [← hw]
    unfold cntD
    rw [← isum_plus]
    refine isum_congr _ _ fun x _ _ => ?_
    unfold ind
    split <;> split <;> split <;> omega
theorem len_l0 (nm : ByteArray) {base : Int} {l : List Chg} (hv : zvalid base l = true) {d : Int} (h1 : 2 ≤ d) (h2 : d ≤ 36522) : ∀ (e i : Nat), 1440 - i = e → i ≤ 1440 → ∀ k, e < k → wageofficelaw03_ZoneLengths.l0 k d true (minSum base l (d * 1440) i) (i : Int) nm base l = some true := by
  intro e
  induction e with
  | zero =>
    intro i q1 q2 k hk
    obtain ⟨k, rfl⟩ : ∃ m, k = m + 1 := ⟨k - 1, by omega⟩
    have hi : i = 1440 := by omega
    subst hi
    simp only [wageofficelaw03_ZoneLengths.l0, if_true]
    rw [if_neg (by omega), minSum_eq hv (by omega) (by omega) 1440 (by omega)]
    unfold zone_Length.f
    rw [if_pos ⟨by omega, by omega, hv⟩, lenSum_eq hv, show max 0 (d * 1440 - 840) = d * 1440 - 840 by omega, show min 52596000 ((d + 1) * 1440 + 840) = d * 1440 + 2280 by omega, show (d + 1) * 1440 = d * 1440 + 1440 by omega]
    simp only [Option.bind_some]
    have hb := cntD_bd hv (d * 1440)
    have e1 : cntD base l (d * 1440) (d * 1440 + (1440 : Nat)) (d * 1440 - 840) (d * 1440 + 2280) = isum (fun t => ind (d * 1440 ≤ loc base l t ∧ loc base l t < d * 1440 + 1440)) (d * 1440 - 840) (d * 1440 + 2280 - (d * 1440 - 840)).toNat := rfl
    have e2 : cntD base l (d * 1440) (d * 1440 + 1440) (d * 1440 - 840) (d * 1440 + 2280) = isum (fun t => ind (d * 1440 ≤ loc base l t ∧ loc base l t < d * 1440 + 1440)) (d * 1440 - 840) (d * 1440 + 2280 - (d * 1440 - 840)).toNat := rfl
    rw [e1, ← e2, if_pos rfl, if_pos (by omega), decide_eq_true hb.2]
  | succ e ih =>
    intro i q1 q2 k hk
    obtain ⟨k, rfl⟩ : ∃ m, k = m + 1 := ⟨k - 1, by omega⟩
    have e4 : wrap64 ((i : Int) + 1) = ((i + 1 : Nat) : Int) := by rw [w64 (by omega) (by omega)]; rfl
    have hb := minSum_bd hv (d * 1440) i
    have h2i := instR_two hv (d * 1440 + i)
    simp only [wageofficelaw03_ZoneLengths.l0]
    rw [if_pos (by omega), inst_ok _ hv ⟨by omega, by omega⟩ ⟨by omega, by omega⟩]
    simp only [Option.bind_some]
    rw [w64 (x := minSum base l (d * 1440) i + _) (by omega) (by omega), e4]
    exact ih (i + 1) (by omega) (by omega) k (by omega)
theorem ZoneLengths_pure (z : S24) (d : Int) (okz : ok24 z) (okd : (Lit.int .i64 d).wf = true) : Ev (fun k => wageofficelaw03_ZoneLengths.f k z.f0 z.f1 z.f2 d) true := by
  refine ⟨2000, fun k hk => ?_⟩
  obtain ⟨k, rfl⟩ : ∃ m, k = m + 1 := ⟨k - 1, by omega⟩
  unfold wageofficelaw03_ZoneLengths.f wageofficelaw03_small.f wageofficeref03_Valid.f
  dsimp only
  rw [head03 (by omega)]
  simp only [Option.bind_some, decide_eq_true_eq, wageofficelaw03_ZoneLengths.j0, if_true]
  by_cases h70 : (z.f2.length : Int) ≤ 70
  · rw [if_pos h70]
    by_cases hv : zvalid z.f1 z.f2 = true
    · rw [if_pos hv]
      by_cases h1 : d < 2
      · rw [if_pos h1]
      · rw [if_neg h1]
        by_cases h2 : d > 36522
        · rw [if_pos h2]
        · rw [if_neg h2]
          exact len_l0 z.f0 hv (by omega) (by omega) 1440 0 rfl (by omega) k (by omega)
    · rw [if_neg hv]
  · rw [if_neg h70]
end Go.Proofs.Ytnpceipoakclbaa.Q

namespace Go.Proofs.Ytnpceipoakclbaa.zoneLengths
open Go.ChangeShapes Go.WideShapes Go.ChangeAt Go.RowKit
open Go.ChangeMaps (open_string shut_string)
open Go.Proofs.YtnpceipoakclbaaW.PrintWords Go.Proofs.YtnpceipoakclbaaW.PrintLast Go.Proofs.Ytnpceipoakclbaa.Q
set_option linter.unusedVariables false
theorem own : ownKnob Try.prog.godebug = none := by kernel_rfl
theorem laidOut : laidOutB Try.prog = true := by kernel_rfl
set_option maxRecDepth 100000 in
theorem lifted (os : Os) (started : os.Started) (H : Type) (enc : TypeId × Value → H) :
    ReturnsInHanded {} Try.checked os 12 .any (Rows.zoneLengthsSpec.pre6 enc Try.prog Try.f12 Rows.zoneLengthsRow.domain false) (Rows.zoneLengthsSpec.post enc Try.prog Try.f12 false true false false) := by
  refine returnsInHanded_of_change_sized (C := Try.checked) own started (by kernel_rfl) Try.func12
    (ChangeSpec.witness6 (enc := enc) (C := Try.checked) false ⟨#[], #[.agg #[.string ByteArray.empty, .int .i64 0, .slice none 0 0], .int .i64 0], []⟩ 8 (by kernel_rfl) (by kernel_rfl) (by kernel_rfl) (by kernel_rfl)) ?_
  intro W base args ds gs before hval0 hW hcnd hsz0 _
  have hval : ∀ (j : Nat) t v, Try.f12.params[j]? = some t → args[j]? = some v → Value.okWide Try.prog W .any base t v := hval0
  have hW' := hW
  obtain ⟨p, q, hA0, hV, rfl, hfz, hnd⟩ := hW
  have hA : DataW.TrodAll enc Try.prog W 0 (fun _ => true) true Try.f12.params.toList args.toList ds p := hA0
  rw [Try.params12] at hA hval
  obtain ⟨v0, vs0, d0, ds0, p0, q0, hargs, rfl, rfl, h0, r0⟩ := trodAll_cons hA
  obtain ⟨v1, vs1, d1, ds1, p1, q1, rfl, rfl, rfl, h1, r1⟩ := trodAll_cons r0
  obtain ⟨rfl, rfl, rfl⟩ := trodAll_nil r1
  obtain rfl : args = #[v0, v1] := by cases args; simp_all
  obtain ⟨rfl, rfl⟩ := trodVars_none hV
  have k0 := h0
  have lt0 : ∀ x ∈ p0, x.block < W.heap.size := by obtain ⟨m, hm⟩ := k0; exact DataW.trod_lt m _ _ _ hm
  obtain ⟨cs0, y0, rfl, K0, ok0⟩ := open_rec Try.underlying24 opens24 (hval 0 24 v0 rfl rfl) h0
  have K0' := k24_openR K0
  obtain ⟨A0_2, c0_2, rfl, hc0_2, hr0_2⟩ := K0'
  obtain ⟨a1, rfl, rfl, rfl, ok1⟩ := open_int Try.underlying3 (hval 1 3 v1 rfl rfl) h1
  clear hA0 hval0 hsz0
  obtain ⟨k, hP⟩ := (ZoneLengths_pure y0 a1 ok0 ok1).rounds
  refine (wageofficelaw03_ZoneLengths.calls k y0.f0 y0.f1 A0_2 c0_2 y0.f2 a1 true W hr0_2 hc0_2 hP).mono fun e W' ⟨he, bel0⟩ => ?_
  have bel : Below W.heap.size W W' := bel0
  subst he
  exact ⟨_, rfl, _, _, _, [], _, [], hW', trodAll_mk1 (shut_bool Try.underlying4 _), (trodAll_cons_mk (Below.trod laidOut (by kernel_rfl) (of_decide_eq_true (by kernel_rfl)) k0 bel lt0) (trodAll_cons_mk (shut_int Try.underlying3 ok1) trodAll_mk0)), rfl, bel.frame _, fun h => by cases h⟩
theorem over : Rows.zoneLengthsRow.holds Try.pinned (OpenSpec.ofChange Rows.zoneLengthsSpec) :=
  OpenClaim.holds_of_wide 12 Try.f12 rfl rfl rfl rfl rfl rfl rfl ⟨rfl, rfl, rfl, rfl, rfl⟩ rfl rfl rfl rfl rfl (by kernel_rfl) Try.func12 (by kernel_rfl)
    (of_decide_eq_true (by kernel_rfl)) (by unfold Func.isWrapper; first | (rw [if_pos (by decide +kernel)]; kernel_rfl) | (rw [if_neg (by decide +kernel)]; exact ⟨rfl, rfl⟩))
    (fun os started H enc _ => lifted os started H enc)
theorem proved : Rows.ZoneLengthsSaid := over
end Go.Proofs.Ytnpceipoakclbaa.zoneLengths
namespace Go.Proofs.Ytnpceipoakclbaa
theorem zoneLengths_holds : Rows.ZoneLengthsSaid := zoneLengths.proved
end Go.Proofs.Ytnpceipoakclbaa
