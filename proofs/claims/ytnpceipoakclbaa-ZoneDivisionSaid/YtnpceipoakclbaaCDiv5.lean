/- The portions of a stretch are positive, in increasing order of their days, and add up to its length; those of two successive stretches, added day by day, are those of the whole; conditions: none beyond the reading of the inputs (the guards are inside the law).
   The walk of the law's code and its plain law (merged by wip/tools/trim.py out of own texts and of texts that the kit's printer wrote). -/
import Derived.Test.YtnpceipoakclbaaCDiv4
import Derived.Test.YtnpceipoakclbaaRows
import Derived.WalkKit
import Derived.ProofKit
import Derived.OpenShut
import Derived.ShutString
import Derived.ChangeOld
import Derived.Below
import Derived.SizedLaws
namespace Go.Proofs.Ytnpceipoakclbaa.Q
open Go Go.RowKit Go.Proofs.YtnpceipoakclbaaW.PrintWords Go.Proofs.YtnpceipoakclbaaW.PrintLast Go.Proofs.YtnpceipoakclbaaW.PrintMore
set_option linter.unusedVariables false
set_option linter.unusedSimpArgs false
def splC (base : Int) (l : List Chg) (fr tt : Int) : List Por := mdays (fun t => loc base l t / 1440) (tt - fr).toNat fr []
def goodS (base : Int) (l : List Chg) (fr tt : Int) : Prop := stretchE base l fr tt = 0 ∧ ∀ x, fr ≤ x → x < tt → 0 ≤ loc base l x / 1440 ∧ loc base l x / 1440 ≤ 36524
theorem split_good (nm : ByteArray) {base : Int} {l : List Chg} {fr tt : Int} (h : goodS base l fr tt) : zone_Split.f nm base l fr tt = some (splC base l fr tt, 0) := by
  obtain ⟨hs, hd⟩ := h
  have hv := (stretch_ok hs).2.2.2.2
  unfold zone_Split.f
  rw [if_pos hs, if_pos ((inDays_iff hv).2 fun x h1 h2 => hd x h1 (by omega)), splitL_minutes hv]
  rfl
theorem split_bad (nm : ByteArray) {base : Int} {l : List Chg} {fr tt : Int} (h : ¬ goodS base l fr tt) : ∃ e, e ≠ 0 ∧ zone_Split.f nm base l fr tt = some ([], e) := by
  unfold zone_Split.f
  by_cases hs : stretchE base l fr tt = 0
  · rw [if_pos hs]
    have hv := (stretch_ok hs).2.2.2.2
    by_cases hd : inDays (splitL (psteps tt l fr base)) = true
    · exact absurd ⟨hs, fun x h1 h2 => (inDays_iff hv).1 hd x h1 (by omega)⟩ h
    · rw [if_neg hd]
      exact ⟨21, by decide, rfl⟩
  · rw [if_neg hs]
    exact ⟨_, hs, rfl⟩
theorem split_some (nm : ByteArray) (base : Int) (l : List Chg) (fr tt : Int) : ∃ L e, zone_Split.f nm base l fr tt = some (L, e) := by
  by_cases h : goodS base l fr tt
  · exact ⟨_, _, split_good nm h⟩
  · obtain ⟨e, _, h⟩ := split_bad nm h
    exact ⟨_, _, h⟩
theorem splC_inc (base : Int) (l : List Chg) (fr tt : Int) : Inc (splC base l fr tt) := mdays_inc _ _ _ _ List.Pairwise.nil
theorem splC_mem {base : Int} {l : List Chg} {fr tt : Int} {p : Por} (h : p ∈ splC base l fr tt) : 1 ≤ p.f1 ∧ p.f1 ≤ (tt - fr).toNat ∧ ∃ x, fr ≤ x ∧ x < tt ∧ loc base l x / 1440 = p.f0 := by
  obtain ⟨h1, h2⟩ := look_mem (splC_inc base l fr tt) h
  rcases (mdays_has _ _ _ _ _).1 h1 with h3 | ⟨x, x1, x2, x3⟩
  · cases h3
  · unfold splC at h2
    rw [mdays_look _ _ _ _ _ List.Pairwise.nil] at h2
    have e0 : look [] p.f0 = 0 := rfl
    rw [e0, Int.zero_add] at h2
    have l1 := isum_pos (F := fun t => ind (loc base l t / 1440 = p.f0)) (fun x => (ind_nonneg _).1) (tt - fr).toNat fr x x1 x2
    simp only [ind, if_pos x3] at l1
    have l2 := isum_le (F := fun t => ind (loc base l t / 1440 = p.f0)) (G := fun _ => 1) (tt - fr).toNat fr (fun x _ _ => (ind_nonneg _).2)
    rw [isum_const] at l2
    simp only [ind] at h2 l2
    exact ⟨by omega, by omega, x, x1, by omega, x3⟩
theorem splC_tot (base : Int) (l : List Chg) {fr tt : Int} (h : fr ≤ tt) : tot (splC base l fr tt) = tt - fr := by
  unfold splC
  rw [tot_mdays]
  show 0 + _ = _
  omega
theorem splC_add (base : Int) (l : List Chg) {fr md tt : Int} (h1 : fr ≤ md) (h2 : md ≤ tt) : mrg (splC base l fr md) (splC base l md tt) = splC base l fr tt := by
  have ia := splC_inc base l fr md
  have ib := splC_inc base l md tt
  have hlk : ∀ e, look (mrg (splC base l fr md) (splC base l md tt)) e = look (splC base l fr tt) e := by
    intro e
    rw [(mrg_look e _ _ _ rfl ia ib).1]
    unfold splC
    rw [mdays_look _ e _ _ _ List.Pairwise.nil, mdays_look _ e _ _ _ List.Pairwise.nil, mdays_look _ e _ _ _ List.Pairwise.nil]
    have e0 : look [] e = 0 := rfl
    rw [e0, show (tt - fr).toNat = (md - fr).toNat + (tt - md).toNat by omega, isum_add, show fr + ((md - fr).toNat : Int) = md by omega]
    omega
  refine inc_same (mrg_inc _ _ _ rfl ia ib) (splC_inc _ _ _ _) (fun e => ?_) hlk
  rw [(mrg_look e _ _ _ rfl ia ib).2]
  unfold splC
  simp only [Bool.or_eq_true]
  rw [mdays_has, mdays_has, mdays_has]
  constructor
  · rintro ((h | ⟨x, x1, x2, x3⟩) | (h | ⟨x, x1, x2, x3⟩))
    · exact .inl h
    · exact .inr ⟨x, by omega, by omega, x3⟩
    · exact .inl h
    · exact .inr ⟨x, by omega, by omega, x3⟩
  · rintro (h | ⟨x, x1, x2, x3⟩)
    · exact .inl (.inl h)
    · by_cases c : x < md
      · exact .inl (.inr ⟨x, by omega, by omega, x3⟩)
      · exact .inr (.inr ⟨x, by omega, by omega, x3⟩)
theorem splC_len {base : Int} {l : List Chg} (hv : zvalid base l = true) {fr tt : Int} (h : tt - fr ≤ 6000) : (splC base l fr tt).length ≤ 20 := by
  have := inc_len (lo := (fr - 840) / 1440) (hi := (tt + 840) / 1440 + 1) (splC_inc base l fr tt) (fun p hp => by
    obtain ⟨_, _, x, x1, x2, x3⟩ := splC_mem hp
    have hb := loc_bd hv (t := x)
    omega)
  omega
theorem div_l0 (nm : ByteArray) (a c : Int) (A B C : List Por) (hA : A.length ≤ 20) (hB : B.length ≤ 20) (hAm : ∀ p ∈ A, 1 ≤ p.f1 ∧ p.f1 ≤ 6000) (hBm : ∀ p ∈ B, 1 ≤ p.f1 ∧ p.f1 ≤ 6000) (hCm : ∀ p ∈ C, 1 ≤ p.f1 ∧ p.f1 ≤ 6000) (hI : Inc C) (hm : mrg A B = C) (hC : C.length ≤ 40) (hac : tot C = wrap64 (c - a)) :
    ∀ (d i : Nat) (n : Int), C.length - i = d → i ≤ C.length → 0 ≤ n → n ≤ i * 6000 → n + tot (C.drop i) = tot C → ∀ k, d + 200 < k → wageofficelaw03_ZoneDivision.l0 k a c true A B C n (i : Int) = some true := by
  intro d
  induction d with
  | zero =>
    intro i n h1 h2 h3 h4 h5 k hk
    obtain ⟨k, rfl⟩ : ∃ m, k = m + 1 := ⟨k - 1, by omega⟩
    rw [List.drop_eq_nil_of_le (by omega)] at h5
    have e0 : tot [] = 0 := rfl
    simp only [wageofficelaw03_ZoneDivision.l0, if_true]
    rw [if_neg (by omega), if_pos (by omega), if_pos (by omega), if_pos (by omega), sum_f A B (by omega) (by omega) (fun p hp => by have := hAm p hp; omega) (fun p hp => by have := hBm p hp; omega) (by omega), hm]
    simp only [Option.bind_some]
    rw [same_self C (by omega) k (by omega)]
    rfl
  | succ d ih =>
    intro i n h1 h2 h3 h4 h5 k hk
    obtain ⟨k, rfl⟩ : ∃ m, k = m + 1 := ⟨k - 1, by omega⟩
    have hi : i < C.length := by omega
    have hp := hCm C[i] (List.getElem_mem _)
    rw [List.drop_eq_getElem_cons hi, tot_cons] at h5
    have e1 := Lib.hid <| show wrap64 (n + C[i].f1) = n + C[i].f1 from w64 (by omega) (by omega)
    have e4 := Lib.hid <| show wrap64 ((i : Int) + 1) = ((i + 1 : Nat) : Int) from by rw [w64 (by omega) (by omega)]; rfl
    have fin := ih (i + 1) (n + C[i].f1) (by omega) (by omega) (by omega) (by omega) (by omega) k (by omega)
    simp only [wageofficelaw03_ZoneDivision.l0]
    rw [if_pos (by omega), if_pos (by omega), rd_por C hi, if_neg (by omega), e1.out, e4.out]
    by_cases c0 : (i : Int) > 0
    · have e2 := Lib.hid <| show wrap64 ((i : Int) - 1) = ((i - 1 : Nat) : Int) from by rw [w64 (by omega) (by omega)]; omega
      have hlt := List.pairwise_iff_getElem.1 hI (i - 1) i (by omega) hi (by omega)
      rw [if_pos c0, e2.out, if_pos (by omega), if_pos (by omega), rd_por C (i := i - 1) (by omega), if_neg (by omega)]
      exact fin
    · rw [if_neg c0]
      exact fin
theorem ZoneDivision_pure (z : S24) (a b c : Int) (okz : ok24 z) (oka : (Lit.int .i64 a).wf = true) (okb : (Lit.int .i64 b).wf = true) (okc : (Lit.int .i64 c).wf = true) : Ev (fun k => wageofficelaw03_ZoneDivision.f k z.f0 z.f1 z.f2 a b c) true := by
  refine ⟨400, fun k hk => ?_⟩
  obtain ⟨k, rfl⟩ : ∃ m, k = m + 2 := ⟨k - 2, by omega⟩
  unfold wageofficelaw03_ZoneDivision.f wageofficelaw03_small.f
  dsimp only
  rw [head03 (by omega)]
  simp only [Option.bind_some, decide_eq_true_eq, wageofficelaw03_ZoneDivision.j0, if_true]
  by_cases h70 : (z.f2.length : Int) ≤ 70
  · rw [if_pos h70]
    by_cases h1 : a > b
    · rw [if_pos h1]
    · rw [if_neg h1]
      by_cases h2 : b > c
      · rw [if_pos h2]
      · rw [if_neg h2]
        by_cases h3 : wrap64 (c - a) > 6000
        · rw [if_pos h3]
        · rw [if_neg h3]
          by_cases hg : goodS z.f1 z.f2 a c
          · obtain ⟨g1, g2, g3, g4, hv⟩ := stretch_ok hg.1
            have hs1 : goodS z.f1 z.f2 a b := ⟨stretch_zero hv g1 (by omega) (by omega) (by omega), fun x x1 x2 => hg.2 x x1 (by omega)⟩
            have hs2 : goodS z.f1 z.f2 b c := ⟨stretch_zero hv (by omega) (by omega) g3 (by omega), fun x x1 x2 => hg.2 x (by omega) x2⟩
            have e6 : wrap64 (c - a) = c - a := w64 (by omega) (by omega)
            rw [e6] at h3
            rw [split_good _ hg, split_good _ hs1, split_good _ hs2]
            simp only [Option.bind_some, if_true, wageofficelaw03_ZoneDivision.j1]
            rw [if_neg (by simp)]
            have L1 := splC_len hv (fr := a) (tt := b) (by omega)
            have L2 := splC_len hv (fr := b) (tt := c) (by omega)
            have L3 := splC_len hv (fr := a) (tt := c) (by omega)
            exact div_l0 z.f0 a c _ _ _ L1 L2 (fun p hp => by obtain ⟨q1, q2, _⟩ := splC_mem hp; omega) (fun p hp => by obtain ⟨q1, q2, _⟩ := splC_mem hp; omega) (fun p hp => by obtain ⟨q1, q2, _⟩ := splC_mem hp; omega) (splC_inc _ _ _ _) (splC_add _ _ (by omega) (by omega)) (by omega) (by rw [e6, splC_tot _ _ (by omega)]) _ 0 0 rfl (by omega) (by omega) (by omega) (by simp) k (by omega)
          · obtain ⟨e, he, hb⟩ := split_bad z.f0 hg
            obtain ⟨LA, ea, hA⟩ := split_some z.f0 z.f1 z.f2 a b
            obtain ⟨LB, eb, hB⟩ := split_some z.f0 z.f1 z.f2 b c
            rw [hb, hA, hB]
            simp only [Option.bind_some, wageofficelaw03_ZoneDivision.j1, if_true]
            by_cases ca : ea = 0
            · rw [if_pos ca]
              by_cases cb : eb = 0
              · rw [if_pos cb, if_pos (by simpa using he), if_neg he]
              · rw [if_neg cb, if_neg he]
            · rw [if_neg ca, if_neg he]
  · rw [if_neg h70]
end Go.Proofs.Ytnpceipoakclbaa.Q

namespace Go.Proofs.Ytnpceipoakclbaa.zoneDivision
open Go.ChangeShapes Go.WideShapes Go.ChangeAt Go.RowKit
open Go.ChangeMaps (open_string shut_string)
open Go.Proofs.YtnpceipoakclbaaW.PrintWords Go.Proofs.YtnpceipoakclbaaW.PrintLast Go.Proofs.Ytnpceipoakclbaa.Q
set_option linter.unusedVariables false
theorem own : ownKnob Try.prog.godebug = none := by kernel_rfl
theorem laidOut : laidOutB Try.prog = true := by kernel_rfl
set_option maxRecDepth 100000 in
theorem lifted (os : Os) (started : os.Started) (H : Type) (enc : TypeId × Value → H) :
    ReturnsInHanded {} Try.checked os 11 .any (Rows.zoneDivisionSpec.pre6 enc Try.prog Try.f11 Rows.zoneDivisionRow.domain false) (Rows.zoneDivisionSpec.post enc Try.prog Try.f11 false true false false) := by
  refine returnsInHanded_of_change_sized (C := Try.checked) own started (by kernel_rfl) Try.func11
    (ChangeSpec.witness6 (enc := enc) (C := Try.checked) false ⟨#[], #[.agg #[.string ByteArray.empty, .int .i64 0, .slice none 0 0], .int .i64 0, .int .i64 0, .int .i64 0], []⟩ 8 (by kernel_rfl) (by kernel_rfl) (by kernel_rfl) (by kernel_rfl)) ?_
  intro W base args ds gs before hval0 hW hcnd hsz0 _
  have hval : ∀ (j : Nat) t v, Try.f11.params[j]? = some t → args[j]? = some v → Value.okWide Try.prog W .any base t v := hval0
  have hW' := hW
  obtain ⟨p, q, hA0, hV, rfl, hfz, hnd⟩ := hW
  have hA : DataW.TrodAll enc Try.prog W 0 (fun _ => true) true Try.f11.params.toList args.toList ds p := hA0
  rw [Try.params11] at hA hval
  obtain ⟨v0, vs0, d0, ds0, p0, q0, hargs, rfl, rfl, h0, r0⟩ := trodAll_cons hA
  obtain ⟨v1, vs1, d1, ds1, p1, q1, rfl, rfl, rfl, h1, r1⟩ := trodAll_cons r0
  obtain ⟨v2, vs2, d2, ds2, p2, q2, rfl, rfl, rfl, h2, r2⟩ := trodAll_cons r1
  obtain ⟨v3, vs3, d3, ds3, p3, q3, rfl, rfl, rfl, h3, r3⟩ := trodAll_cons r2
  obtain ⟨rfl, rfl, rfl⟩ := trodAll_nil r3
  obtain rfl : args = #[v0, v1, v2, v3] := by cases args; simp_all
  obtain ⟨rfl, rfl⟩ := trodVars_none hV
  have k0 := h0
  have lt0 : ∀ x ∈ p0, x.block < W.heap.size := by obtain ⟨m, hm⟩ := k0; exact DataW.trod_lt m _ _ _ hm
  obtain ⟨cs0, y0, rfl, K0, ok0⟩ := open_rec Try.underlying24 opens24 (hval 0 24 v0 rfl rfl) h0
  have K0' := k24_openR K0
  obtain ⟨A0_2, c0_2, rfl, hc0_2, hr0_2⟩ := K0'
  obtain ⟨a1, rfl, rfl, rfl, ok1⟩ := open_int Try.underlying3 (hval 1 3 v1 rfl rfl) h1
  obtain ⟨a2, rfl, rfl, rfl, ok2⟩ := open_int Try.underlying3 (hval 2 3 v2 rfl rfl) h2
  obtain ⟨a3, rfl, rfl, rfl, ok3⟩ := open_int Try.underlying3 (hval 3 3 v3 rfl rfl) h3
  clear hA0 hval0 hsz0
  obtain ⟨k, hP⟩ := (ZoneDivision_pure y0 a1 a2 a3 ok0 ok1 ok2 ok3).rounds
  refine (wageofficelaw03_ZoneDivision.calls k y0.f0 y0.f1 A0_2 c0_2 y0.f2 a1 a2 a3 true W hr0_2 hc0_2 hP).mono fun e W' ⟨he, bel0⟩ => ?_
  have bel : Below W.heap.size W W' := bel0
  subst he
  exact ⟨_, rfl, _, _, _, [], _, [], hW', trodAll_mk1 (shut_bool Try.underlying4 _), (trodAll_cons_mk (Below.trod laidOut (by kernel_rfl) (of_decide_eq_true (by kernel_rfl)) k0 bel lt0) (trodAll_cons_mk (shut_int Try.underlying3 ok1) (trodAll_cons_mk (shut_int Try.underlying3 ok2) (trodAll_cons_mk (shut_int Try.underlying3 ok3) trodAll_mk0)))), rfl, bel.frame _, fun h => by cases h⟩
theorem over : Rows.zoneDivisionRow.holds Try.pinned (OpenSpec.ofChange Rows.zoneDivisionSpec) :=
  OpenClaim.holds_of_wide 11 Try.f11 rfl rfl rfl rfl rfl rfl rfl ⟨rfl, rfl, rfl, rfl, rfl⟩ rfl rfl rfl rfl rfl (by kernel_rfl) Try.func11 (by kernel_rfl)
    (of_decide_eq_true (by kernel_rfl)) (by unfold Func.isWrapper; first | (rw [if_pos (by decide +kernel)]; kernel_rfl) | (rw [if_neg (by decide +kernel)]; exact ⟨rfl, rfl⟩))
    (fun os started H enc _ => lifted os started H enc)
theorem proved : Rows.ZoneDivisionSaid := over
end Go.Proofs.Ytnpceipoakclbaa.zoneDivision
namespace Go.Proofs.Ytnpceipoakclbaa
theorem zoneDivision_holds : Rows.ZoneDivisionSaid := zoneDivision.proved
end Go.Proofs.Ytnpceipoakclbaa
