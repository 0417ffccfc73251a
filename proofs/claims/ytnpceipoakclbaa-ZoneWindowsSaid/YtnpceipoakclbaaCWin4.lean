/- A daily window and the one with its bounds exchanged divide every stretch, the whole day contains all of it, and the windows of two successive stretches add up; for every input.
   The walk of the law's code and its plain law (merged by wip/tools/trim.py out of own texts and of texts that the kit's printer wrote). -/
import Derived.Test.YtnpceipoakclbaaCWin3
import Derived.Deep.Slices
import Derived.ChangeArms
import Derived.WideShapes
import Derived.OpenShut
import Derived.KernelRfl
import Derived.Test.YtnpceipoakclbaaRows
import Derived.WalkKit
import Derived.ProofKit
import Derived.ShutString
import Derived.ChangeOld
import Derived.Below
import Derived.SizedLaws
namespace Go.Proofs.YtnpceipoakclbaaW.PrintLast
open Go Go.RowKit Go.Proofs.YtnpceipoakclbaaW.PrintWords
section
variable {H : Type} {enc : TypeId × Value → H} {P : Program} {w : World} {spare : Nat → Bool} {held : Bool} {α : Type} {t e : TypeId}
def Opens (enc : TypeId × Value → H) (P : Program) (w : World) (spare : Nat → Bool) (held : Bool) (t : TypeId) (d : Kd α) (ok : α → Prop) : Prop :=
  ∀ (fuel : Nat) (cs : List Value) (x : DataW H × List MemPlace), DataW.trod enc P w 0 spare held fuel t cs = some x → ∃ y, d.K w y cs ∧ ok y
theorem Opens.int {k : IntKind} (ht : P.underlying t = some (.int k)) : Opens enc P w spare held t (Kd.int k) (fun x => (Lit.int k x).wf = true) := by
  intro fuel cs x h
  obtain ⟨n, rfl, _, hw⟩ := DataW.trod_int ht h
  exact ⟨n, rfl, hw⟩
theorem Opens.bool (ht : P.underlying t = some .bool) : Opens enc P w spare held t Kd.bool (fun _ => True) := by
  intro fuel cs x h
  obtain ⟨n, rfl, _⟩ := DataW.trod_bool ht h
  exact ⟨n, rfl, trivial⟩
theorem Opens.string (ht : P.underlying t = some .string) : Opens enc P w spare held t Kd.string (fun s => s.size ≤ maxLen) := by
  intro fuel cs x h
  obtain ⟨n, rfl, _, hl⟩ := DataW.trod_string ht h
  exact ⟨n, rfl, by simpa using hl⟩
theorem cut_ (cs : List Value) (o s : Nat) : cs.drop o = (cs.drop o).take s ++ cs.drop (o + s) := by
  rw [← List.drop_drop, List.take_append_drop]
theorem cut_last (cs : List Value) (o s : Nat) (h : cs.length = o + s) : cs.drop o = (cs.drop o).take s := (List.take_of_length_le (by rw [List.length_drop]; omega)).symm
theorem Opens.slice {d : Kd α} {ok : α → Prop} (ht : P.underlying t = some (.slice e)) (hsz : P.cellsOf e = d.sz) (hd : Opens enc P w spare held e d ok) :
    Opens enc P w spare held t (Kd.slice e d) (fun l => (∀ x ∈ l, ok x) ∧ l.length ≤ maxLen) := by
  intro fuel cs x hx
  rcases Go.Deep.open_slice ht hx with ⟨rfl, _⟩ | ⟨a, len, cap, m, n, D, Pl, rfl, hb, hl, hm, hmm, _, hel⟩
  · exact ⟨[], ⟨none, 0, rfl, Nat.le_refl _, Kd.C_nil d w⟩, by simp, by simp⟩
  · have hlm : len ≤ m := by rw [hmm]; split <;> omega
    have key : ∀ n', n' ≤ len → ∃ l : List α, l.length = n' ∧ ∀ i y, l[i]? = some y → (∃ c, c.length = d.sz ∧ d.K w y c ∧ ∀ j u, c[j]? = some u → w.cell? (a.add (i * d.sz + j)) = some u) ∧ ok y := by
      intro n'
      induction n' with
      | zero => exact fun _ => ⟨[], rfl, fun i y h => by simp at h⟩
      | succ n' ih =>
        intro hn
        obtain ⟨l, hll, hle⟩ := ih (by omega)
        obtain ⟨cs', h1, h2⟩ := hel n' (by omega)
        obtain ⟨y, hK, hok⟩ := hd _ _ _ h2
        obtain ⟨_, hcl, hcell⟩ := World.cells?_some h1
        refine ⟨l ++ [y], by rw [List.length_append, hll]; rfl, fun i z hz => ?_⟩
        rcases Nat.lt_or_ge i l.length with hi | hi
        · exact hle i z (by rwa [List.getElem?_append_left hi] at hz)
        · have hi2 : i = n' := by
            have := (List.getElem?_eq_some_iff.1 hz).1
            rw [List.length_append, List.length_singleton] at this
            omega
          subst hi2
          have hzy : y = z := by
            rw [List.getElem?_append_right (by omega), hll, Nat.sub_self] at hz
            simpa using hz
          subst hzy
          refine ⟨⟨cs', by rw [hcl, hsz], hK, fun j u hu => ?_⟩, hok⟩
          have hj : j < cs'.length := (List.getElem?_eq_some_iff.1 hu).1
          have := hcell j (by rw [← hcl]; exact hj)
          rw [Go.Deep.add_add, hsz] at this
          rw [this, hu]
    obtain ⟨l, hll, hle⟩ := key len (Nat.le_refl _)
    refine ⟨l, ⟨some a, cap, by rw [hll], by omega, rfl, by rw [hll]; have := hm; unfold maxLen at this; omega, fun _ => ⟨a, rfl, fun j p hp => (hle j p hp).1⟩⟩, fun y hy => ?_, by rw [hll]; omega⟩
    obtain ⟨i, hi⟩ := List.getElem?_of_mem hy
    exact (hle i y hi).2
theorem open_rec {fs : Array Field} {d : Kd α} {ok : α → Prop} {r : Reach} {b0 : Nat} {v : Value} {dd : DataW H} {p : List MemPlace} (ht : P.underlying t = some (.struct fs)) (hd : Opens enc P w spare held t d ok)
    (hv : Value.okWide P w r b0 t v) (h : DataW.Trod enc P w 0 spare held t v dd p) : ∃ (cs : List Value) (y : α), v = .agg cs.toArray ∧ d.K w y cs ∧ ok y := by
  obtain ⟨cs, rfl, _⟩ := Go.WideShapes.okWide_struct ht hv
  obtain ⟨fuel, hf⟩ := h
  obtain ⟨y, hK, hok⟩ := hd _ _ _ hf
  exact ⟨cs.toList, y, by simp, by simpa [Value.cells] using hK, hok⟩
end
end Go.Proofs.YtnpceipoakclbaaW.PrintLast

namespace Go.Proofs.Ytnpceipoakclbaa.Q
open Go Go.RowKit Go.Proofs.YtnpceipoakclbaaW.PrintWords Go.Proofs.YtnpceipoakclbaaW.PrintLast
def ok75 (x : S75) : Prop := ((Lit.int .i64 x.f0).wf = true) ∧ ((Lit.int .i64 x.f1).wf = true)
theorem opens75 {H : Type} {enc : TypeId × Value → H} {w : World} {spare : Nat → Bool} {held : Bool} : Opens enc Try.prog w spare held 75 k75 ok75 := by
  intro fuel cs x h
  obtain ⟨xs, n, _, _, hl, hlen, hf⟩ := DataW.trod_struct Try.underlying75 h
  have hl : cs.length = 2 := hl.trans (by kernel_rfl)
  have hlen : xs.length = 2 := hlen
  match xs, hlen with
  | [x0, x1], _ =>
    have c0 : Try.prog.cellsOf 3 = 1 := by kernel_rfl
    have h0 : DataW.trod enc Try.prog w 0 spare held n 3 ((cs.drop 0).take 1) = some x0 := by
      have q : DataW.trod enc Try.prog w 0 spare held n 3 ((cs.drop 0).take (Try.prog.cellsOf 3)) = some x0 := hf 0 _ rfl
      rw [c0] at q
      exact q
    obtain ⟨y0, K0, g0⟩ := (Opens.int Try.underlying3) _ _ _ h0
    have c1 : Try.prog.cellsOf 3 = 1 := by kernel_rfl
    have h1 : DataW.trod enc Try.prog w 0 spare held n 3 ((cs.drop 1).take 1) = some x1 := by
      have q : DataW.trod enc Try.prog w 0 spare held n 3 ((cs.drop 1).take (Try.prog.cellsOf 3)) = some x1 := hf 1 _ rfl
      rw [c1] at q
      exact q
    obtain ⟨y1, K1, g1⟩ := (Opens.int Try.underlying3) _ _ _ h1
    have el := cut_last cs 1 1 (by rw [hl])
    exact ⟨⟨y0, y1⟩, ⟨_, _, (cut_ cs 0 1), K0, (by rw [el]; exact K1)⟩, g0, g1⟩
def ok24 (x : S24) : Prop := (x.f0.size ≤ maxLen) ∧ ((Lit.int .i64 x.f1).wf = true) ∧ ((∀ y ∈ x.f2, ok75 y) ∧ x.f2.length ≤ maxLen)
theorem opens24 {H : Type} {enc : TypeId × Value → H} {w : World} {spare : Nat → Bool} {held : Bool} : Opens enc Try.prog w spare held 24 k24 ok24 := by
  intro fuel cs x h
  obtain ⟨xs, n, _, _, hl, hlen, hf⟩ := DataW.trod_struct Try.underlying24 h
  have hl : cs.length = 3 := hl.trans (by kernel_rfl)
  have hlen : xs.length = 3 := hlen
  match xs, hlen with
  | [x0, x1, x2], _ =>
    have c0 : Try.prog.cellsOf 9 = 1 := by kernel_rfl
    have h0 : DataW.trod enc Try.prog w 0 spare held n 9 ((cs.drop 0).take 1) = some x0 := by
      have q : DataW.trod enc Try.prog w 0 spare held n 9 ((cs.drop 0).take (Try.prog.cellsOf 9)) = some x0 := hf 0 _ rfl
      rw [c0] at q
      exact q
    obtain ⟨y0, K0, g0⟩ := (Opens.string Try.underlying9) _ _ _ h0
    have c1 : Try.prog.cellsOf 3 = 1 := by kernel_rfl
    have h1 : DataW.trod enc Try.prog w 0 spare held n 3 ((cs.drop 1).take 1) = some x1 := by
      have q : DataW.trod enc Try.prog w 0 spare held n 3 ((cs.drop 1).take (Try.prog.cellsOf 3)) = some x1 := hf 1 _ rfl
      rw [c1] at q
      exact q
    obtain ⟨y1, K1, g1⟩ := (Opens.int Try.underlying3) _ _ _ h1
    have c2 : Try.prog.cellsOf 22 = 1 := by kernel_rfl
    have h2 : DataW.trod enc Try.prog w 0 spare held n 22 ((cs.drop 2).take 1) = some x2 := by
      have q : DataW.trod enc Try.prog w 0 spare held n 22 ((cs.drop 2).take (Try.prog.cellsOf 22)) = some x2 := hf 2 _ rfl
      rw [c2] at q
      exact q
    obtain ⟨y2, K2, g2⟩ := (Opens.slice Try.underlying22 (by kernel_rfl) opens75) _ _ _ h2
    have el := cut_last cs 2 1 (by rw [hl])
    exact ⟨⟨y0, y1, y2⟩, ⟨_, _, (cut_ cs 0 1), K0, ⟨_, _, (cut_ cs 1 1), K1, (by rw [el]; exact K2)⟩⟩, g0, g1, g2⟩
theorem k24_openR {w : World} {x : S24} {cs : List Value} (h : k24.K w x cs) : ∃ A2 c2, cs = [.string x.f0, .int .i64 x.f1, .slice A2 x.f2.length c2] ∧ x.f2.length ≤ c2 ∧ Kd.C k75 w A2 x.f2.length x.f2 := by
  have q := k24_open h
  exact q
def ok28 (x : S28) : Prop := ((Lit.int .i64 x.f0).wf = true) ∧ ((Lit.int .i64 x.f1).wf = true)
theorem opens28 {H : Type} {enc : TypeId × Value → H} {w : World} {spare : Nat → Bool} {held : Bool} : Opens enc Try.prog w spare held 28 k28 ok28 := by
  intro fuel cs x h
  obtain ⟨xs, n, _, _, hl, hlen, hf⟩ := DataW.trod_struct Try.underlying28 h
  have hl : cs.length = 2 := hl.trans (by kernel_rfl)
  have hlen : xs.length = 2 := hlen
  match xs, hlen with
  | [x0, x1], _ =>
    have c0 : Try.prog.cellsOf 3 = 1 := by kernel_rfl
    have h0 : DataW.trod enc Try.prog w 0 spare held n 3 ((cs.drop 0).take 1) = some x0 := by
      have q : DataW.trod enc Try.prog w 0 spare held n 3 ((cs.drop 0).take (Try.prog.cellsOf 3)) = some x0 := hf 0 _ rfl
      rw [c0] at q
      exact q
    obtain ⟨y0, K0, g0⟩ := (Opens.int Try.underlying3) _ _ _ h0
    have c1 : Try.prog.cellsOf 3 = 1 := by kernel_rfl
    have h1 : DataW.trod enc Try.prog w 0 spare held n 3 ((cs.drop 1).take 1) = some x1 := by
      have q : DataW.trod enc Try.prog w 0 spare held n 3 ((cs.drop 1).take (Try.prog.cellsOf 3)) = some x1 := hf 1 _ rfl
      rw [c1] at q
      exact q
    obtain ⟨y1, K1, g1⟩ := (Opens.int Try.underlying3) _ _ _ h1
    have el := cut_last cs 1 1 (by rw [hl])
    exact ⟨⟨y0, y1⟩, ⟨_, _, (cut_ cs 0 1), K0, (by rw [el]; exact K1)⟩, g0, g1⟩
theorem k28_openR {w : World} {x : S28} {cs : List Value} (h : k28.K w x cs) : cs = [.int .i64 x.f0, .int .i64 x.f1] := by
  have q := k28_open h
  exact q
end Go.Proofs.Ytnpceipoakclbaa.Q

namespace Go.Proofs.Ytnpceipoakclbaa.Q
open Go Go.RowKit Go.Proofs.YtnpceipoakclbaaW.PrintWords Go.Proofs.YtnpceipoakclbaaW.PrintLast Go.Proofs.YtnpceipoakclbaaW.PrintMore
set_option linter.unusedVariables false
set_option linter.unusedSimpArgs false
theorem ZoneWindows_pure (z : S24) (a b c : Int) (s : S28) (okz : ok24 z) (oka : (Lit.int .i64 a).wf = true) (okb : (Lit.int .i64 b).wf = true) (okc : (Lit.int .i64 c).wf = true) (oks : ok28 s) : Ev (fun k => wageofficelaw03_ZoneWindows.f k z.f0 z.f1 z.f2 a b c s.f0 s.f1) true := by
  refine ⟨100, fun k hk => ?_⟩
  obtain ⟨k, rfl⟩ : ∃ m, k = m + 1 := ⟨k - 1, by omega⟩
  unfold wageofficelaw03_ZoneWindows.f wageofficelaw03_small.f
  dsimp only
  rw [head03 (by omega)]
  simp only [Option.bind_some, decide_eq_true_eq, wageofficelaw03_ZoneWindows.j0, if_true]
  by_cases h70 : (z.f2.length : Int) ≤ 70
  · rw [if_pos h70]
    by_cases h1 : a > b
    · rw [if_pos h1]
    · rw [if_neg h1]
      by_cases h2 : b > c
      · rw [if_pos h2]
      · rw [if_neg h2]
        by_cases h3 : wrap64 (c - a) > 6000
        · rw [if_pos h3]
        · rw [if_neg h3]
          by_cases h4 : stretchE z.f1 z.f2 a c = 0 ∧ 0 ≤ s.f0 ∧ s.f0 ≤ 1440 ∧ 0 ≤ s.f1 ∧ s.f1 ≤ 1440
          · obtain ⟨hs, hf1, hf2, hf3, hf4⟩ := h4
            obtain ⟨g1, g2, g3, g4, hv⟩ := stretch_ok hs
            have hs1 : stretchE z.f1 z.f2 a b = 0 := stretch_zero hv g1 (by omega) (by omega) (by omega)
            have hs2 : stretchE z.f1 z.f2 b c = 0 := stretch_zero hv (by omega) (by omega) g3 (by omega)
            rw [win_ok _ hs ⟨hf1, hf2, hf3, hf4⟩, win_ok _ hs ⟨hf3, hf4, hf1, hf2⟩, win_ok _ hs ⟨by omega, by omega, by omega, by omega⟩, win_ok _ hs1 ⟨hf1, hf2, hf3, hf4⟩, win_ok _ hs2 ⟨hf1, hf2, hf3, hf4⟩]
            simp only [Option.bind_some, if_true]
            have e1 := winV_all z.f1 z.f2 (fr := a) (tt := c) (by omega)
            have e2 := winV_add z.f1 z.f2 s.f0 s.f1 (fr := a) (md := b) (tt := c) (by omega) (by omega)
            have b1 := winV_bd z.f1 z.f2 s.f0 s.f1 (fr := a) (tt := c) (by omega)
            have b2 := winV_bd z.f1 z.f2 s.f1 s.f0 (fr := a) (tt := c) (by omega)
            have b3 := winV_bd z.f1 z.f2 s.f0 s.f1 (fr := a) (tt := b) (by omega)
            have b4 := winV_bd z.f1 z.f2 s.f0 s.f1 (fr := b) (tt := c) (by omega)
            rw [e1, w64 (x := c - a) (by omega) (by omega), if_pos rfl, w64 (x := winV z.f1 z.f2 a b s.f0 s.f1 + winV z.f1 z.f2 b c s.f0 s.f1) (by omega) (by omega), if_pos e2]
            by_cases h5 : s.f0 = s.f1
            · rw [if_pos h5]
            · rw [if_neg h5, w64 (by omega) (by omega), winV_other z.f1 z.f2 h5]
              simp
          · obtain ⟨e, he, hw⟩ := win_bad z.f0 h4
            rw [hw]
            simp only [Option.bind_some]
            rw [if_neg he]
  · rw [if_neg h70]
end Go.Proofs.Ytnpceipoakclbaa.Q

namespace Go.Proofs.Ytnpceipoakclbaa.zoneWindows
open Go.ChangeShapes Go.WideShapes Go.ChangeAt Go.RowKit
open Go.ChangeMaps (open_string shut_string)
open Go.Proofs.YtnpceipoakclbaaW.PrintWords Go.Proofs.YtnpceipoakclbaaW.PrintLast Go.Proofs.Ytnpceipoakclbaa.Q
set_option linter.unusedVariables false
theorem own : ownKnob Try.prog.godebug = none := by kernel_rfl
theorem laidOut : laidOutB Try.prog = true := by kernel_rfl
set_option maxRecDepth 100000 in
theorem lifted (os : Os) (started : os.Started) (H : Type) (enc : TypeId × Value → H) :
    ReturnsInHanded {} Try.checked os 13 .any (Rows.zoneWindowsSpec.pre6 enc Try.prog Try.f13 Rows.zoneWindowsRow.domain false) (Rows.zoneWindowsSpec.post enc Try.prog Try.f13 false true false false) := by
  refine returnsInHanded_of_change_sized (C := Try.checked) own started (by kernel_rfl) Try.func13
    (ChangeSpec.witness6 (enc := enc) (C := Try.checked) false ⟨#[], #[.agg #[.string ByteArray.empty, .int .i64 0, .slice none 0 0], .int .i64 0, .int .i64 0, .int .i64 0, .agg #[.int .i64 0, .int .i64 0]], []⟩ 8 (by kernel_rfl) (by kernel_rfl) (by kernel_rfl) (by kernel_rfl)) ?_
  intro W base args ds gs before hval0 hW hcnd hsz0 _
  have hval : ∀ (j : Nat) t v, Try.f13.params[j]? = some t → args[j]? = some v → Value.okWide Try.prog W .any base t v := hval0
  have hW' := hW
  obtain ⟨p, q, hA0, hV, rfl, hfz, hnd⟩ := hW
  have hA : DataW.TrodAll enc Try.prog W 0 (fun _ => true) true Try.f13.params.toList args.toList ds p := hA0
  rw [Try.params13] at hA hval
  obtain ⟨v0, vs0, d0, ds0, p0, q0, hargs, rfl, rfl, h0, r0⟩ := trodAll_cons hA
  obtain ⟨v1, vs1, d1, ds1, p1, q1, rfl, rfl, rfl, h1, r1⟩ := trodAll_cons r0
  obtain ⟨v2, vs2, d2, ds2, p2, q2, rfl, rfl, rfl, h2, r2⟩ := trodAll_cons r1
  obtain ⟨v3, vs3, d3, ds3, p3, q3, rfl, rfl, rfl, h3, r3⟩ := trodAll_cons r2
  obtain ⟨v4, vs4, d4, ds4, p4, q4, rfl, rfl, rfl, h4, r4⟩ := trodAll_cons r3
  obtain ⟨rfl, rfl, rfl⟩ := trodAll_nil r4
  obtain rfl : args = #[v0, v1, v2, v3, v4] := by cases args; simp_all
  obtain ⟨rfl, rfl⟩ := trodVars_none hV
  have k0 := h0
  have lt0 : ∀ x ∈ p0, x.block < W.heap.size := by obtain ⟨m, hm⟩ := k0; exact DataW.trod_lt m _ _ _ hm
  obtain ⟨cs0, y0, rfl, K0, ok0⟩ := open_rec Try.underlying24 opens24 (hval 0 24 v0 rfl rfl) h0
  have K0' := k24_openR K0
  obtain ⟨A0_2, c0_2, rfl, hc0_2, hr0_2⟩ := K0'
  obtain ⟨a1, rfl, rfl, rfl, ok1⟩ := open_int Try.underlying3 (hval 1 3 v1 rfl rfl) h1
  obtain ⟨a2, rfl, rfl, rfl, ok2⟩ := open_int Try.underlying3 (hval 2 3 v2 rfl rfl) h2
  obtain ⟨a3, rfl, rfl, rfl, ok3⟩ := open_int Try.underlying3 (hval 3 3 v3 rfl rfl) h3
  have k4 := h4
  have lt4 : ∀ x ∈ p4, x.block < W.heap.size := by obtain ⟨m, hm⟩ := k4; exact DataW.trod_lt m _ _ _ hm
  obtain ⟨cs4, y4, rfl, K4, ok4⟩ := open_rec Try.underlying28 opens28 (hval 4 28 v4 rfl rfl) h4
  have K4' := k28_openR K4
  obtain ⟨rfl⟩ := K4'
  clear hA0 hval0 hsz0
  obtain ⟨k, hP⟩ := (ZoneWindows_pure y0 a1 a2 a3 y4 ok0 ok1 ok2 ok3 ok4).rounds
  refine (wageofficelaw03_ZoneWindows.calls k y0.f0 y0.f1 A0_2 c0_2 y0.f2 a1 a2 a3 y4.f0 y4.f1 true W hr0_2 hc0_2 hP).mono fun e W' ⟨he, bel0⟩ => ?_
  have bel : Below W.heap.size W W' := bel0
  subst he
  exact ⟨_, rfl, _, _, _, [], _, [], hW', trodAll_mk1 (shut_bool Try.underlying4 _), (trodAll_cons_mk (Below.trod laidOut (by kernel_rfl) (of_decide_eq_true (by kernel_rfl)) k0 bel lt0) (trodAll_cons_mk (shut_int Try.underlying3 ok1) (trodAll_cons_mk (shut_int Try.underlying3 ok2) (trodAll_cons_mk (shut_int Try.underlying3 ok3) (trodAll_cons_mk (Below.trod laidOut (by kernel_rfl) (of_decide_eq_true (by kernel_rfl)) k4 bel lt4) trodAll_mk0))))), rfl, bel.frame _, fun h => by cases h⟩
theorem over : Rows.zoneWindowsRow.holds Try.pinned (OpenSpec.ofChange Rows.zoneWindowsSpec) :=
  OpenClaim.holds_of_wide 13 Try.f13 rfl rfl rfl rfl rfl rfl rfl ⟨rfl, rfl, rfl, rfl, rfl⟩ rfl rfl rfl rfl rfl (by kernel_rfl) Try.func13 (by kernel_rfl)
    (of_decide_eq_true (by kernel_rfl)) (by unfold Func.isWrapper; first | (rw [if_pos (by decide +kernel)]; kernel_rfl) | (rw [if_neg (by decide +kernel)]; exact ⟨rfl, rfl⟩))
    (fun os started H enc _ => lifted os started H enc)
theorem proved : Rows.ZoneWindowsSaid := over
end Go.Proofs.Ytnpceipoakclbaa.zoneWindows
namespace Go.Proofs.Ytnpceipoakclbaa
theorem zoneWindows_holds : Rows.ZoneWindowsSaid := zoneWindows.proved
end Go.Proofs.Ytnpceipoakclbaa
