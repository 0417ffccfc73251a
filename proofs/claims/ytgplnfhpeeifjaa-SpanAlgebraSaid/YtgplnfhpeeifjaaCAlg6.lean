/- For any three lists of spans union and meeting commute, associate, are idempotent and distribute over each other, a difference taken twice is the meeting, and a difference from a union is the meeting of the differences; conditions: the arguments are values that Go can hold, nothing else.
   The walk of the law's code and its plain law (merged by wip/tools/trim.py out of own texts and of texts that the kit's printer wrote). -/
import Derived.Test.YtgplnfhpeeifjaaCAlg5
import Derived.Deep.Slices
import Derived.ChangeArms
import Derived.WideShapes
import Derived.OpenShut
import Derived.KernelRfl
import Derived.Test.YtgplnfhpeeifjaaRows
import Derived.WalkKit
import Derived.ProofKit
import Derived.ShutString
import Derived.ChangeOld
import Derived.Below
import Derived.SizedLaws
namespace Go.Proofs.Ytgplnfhpeeifjaa.Q
open Go.RowKit Go.Proofs.YtgplnfhpeeifjaaW.PrintWords Go.Proofs.YtgplnfhpeeifjaaW.PrintLast Go.Proofs.YtgplnfhpeeifjaaW.PrintMore
set_option linter.unusedVariables false
set_option linter.unusedSimpArgs false
def isP (s : S33) : Bool := decide (s.f0 ≥ -1152921504606846976) && decide (s.f1 ≤ 1152921504606846976) && decide (s.f0 < s.f1)
def inS (n : Int) (s : S33) : Bool := hasP n s.f0 s.f1
def mem (l : List S33) (n : Int) : Bool := l.any (inS n)
def cnt (l : List S33) (n : Int) : Int := ((l.filter (inS n)).length : Int)
theorem inS_iff (n : Int) (s : S33) : inS n s = true ↔ isP s = true ∧ s.f0 ≤ n ∧ n < s.f1 := by
  unfold inS hasP isP
  simp only [Bool.and_eq_true, decide_eq_true_eq]
  omega
theorem isP_iff (s : S33) : isP s = true ↔ -1152921504606846976 ≤ s.f0 ∧ s.f1 ≤ 1152921504606846976 ∧ s.f0 < s.f1 := by
  unfold isP
  simp only [Bool.and_eq_true, decide_eq_true_eq]
  omega
theorem cnt_nonneg (l : List S33) (n : Int) : 0 ≤ cnt l n := by unfold cnt; omega
theorem cnt_le (l : List S33) (n : Int) : cnt l n ≤ l.length := by
  unfold cnt
  have := List.length_filter_le (inS n) l
  omega
theorem cnt_pos (l : List S33) (n : Int) : decide (cnt l n > 0) = mem l n := by
  unfold cnt mem
  by_cases h : l.any (inS n) = true
  · obtain ⟨s, hs, hn⟩ := List.any_eq_true.1 h
    have : s ∈ l.filter (inS n) := List.mem_filter.2 ⟨hs, hn⟩
    have h2 : 0 < (l.filter (inS n)).length := List.length_pos_of_mem this
    rw [h]
    simp only [decide_eq_true_eq]
    omega
  · have h2 : l.filter (inS n) = [] := by
      rw [List.filter_eq_nil_iff]
      intro s hs hn
      exact h (List.any_eq_true.2 ⟨s, hs, hn⟩)
    rw [h2]
    simp only [Bool.not_eq_true] at h
    rw [h]
    rfl
theorem cnt_zero (l : List S33) (n : Int) : (cnt l n == 0) = !mem l n := by
  rw [← cnt_pos]
  have := cnt_nonneg l n
  by_cases h : cnt l n = 0
  · simp [h]
  · have h2 : cnt l n > 0 := by omega
    simp [h, h2]
def edgs (k : Int) (l : List S33) : List S54 := l.flatMap fun s => if isP s = true then [⟨s.f0, k, 1⟩, ⟨s.f1, k, -1⟩] else []
def sumBy (k n : Int) (E : List S54) : Int := (E.map fun e => if e.f1 = k ∧ e.f0 ≤ n then e.f2 else 0).sum
theorem sumBy_append (k n : Int) (E F : List S54) : sumBy k n (E ++ F) = sumBy k n E + sumBy k n F := by simp [sumBy]
theorem sumBy_perm {E F : List S54} (k n : Int) (h : E.Perm F) : sumBy k n E = sumBy k n F := by
  induction h with
  | nil => rfl
  | cons x _ ih => simp only [sumBy, List.map_cons, List.sum_cons] at ih ⊢; rw [ih]
  | swap x y l => simp only [sumBy, List.map_cons, List.sum_cons]; omega
  | trans _ _ ih1 ih2 => exact ih1.trans ih2
theorem sumBy_edgs (k n : Int) (l : List S33) : sumBy k n (edgs k l) = cnt l n := by
  induction l with
  | nil => rfl
  | cons s l ih =>
    have e1 : edgs k (s :: l) = (if isP s = true then [⟨s.f0, k, 1⟩, ⟨s.f1, k, -1⟩] else []) ++ edgs k l := by simp [edgs]
    rw [e1, sumBy_append, ih]
    unfold cnt
    rw [List.filter_cons]
    have hi := inS_iff n s
    have hp := isP_iff s
    by_cases h : isP s = true
    · rw [if_pos h]
      have hp := hp.1 h
      by_cases hn : inS n s = true
      · have hn2 := hi.1 hn
        rw [if_pos hn]
        have e : sumBy k n [⟨s.f0, k, 1⟩, ⟨s.f1, k, -1⟩] = 1 := by
          simp only [sumBy, List.map_cons, List.map_nil, List.sum_cons, List.sum_nil]
          rw [if_pos ⟨trivial, hn2.2.1⟩, if_neg (by omega)]
          rfl
        rw [e, List.length_cons]
        omega
      · rw [if_neg hn]
        have hn2 : ¬ (s.f0 ≤ n ∧ n < s.f1) := fun q => hn (hi.2 ⟨h, q⟩)
        have e : sumBy k n [⟨s.f0, k, 1⟩, ⟨s.f1, k, -1⟩] = 0 := by
          simp only [sumBy, List.map_cons, List.map_nil, List.sum_cons, List.sum_nil, true_and]
          by_cases q : s.f0 ≤ n
          · rw [if_pos q, if_pos (by omega)]; rfl
          · rw [if_neg q, if_neg (by omega)]; rfl
        rw [e]
        omega
    · rw [if_neg h]
      have hn : ¬ inS n s = true := fun q => h (hi.1 q).1
      rw [if_neg hn]
      have : sumBy k n ([] : List S54) = 0 := rfl
      rw [this]
      omega
theorem sumBy_other (k j n : Int) (h : j ≠ k) (l : List S33) : sumBy j n (edgs k l) = 0 := by
  have : ∀ e ∈ edgs k l, e.f1 = k := by
    intro e he
    simp only [edgs, List.mem_flatMap] at he
    obtain ⟨s, _, hs⟩ := he
    split at hs
    · simp at hs
      rcases hs with rfl | rfl <;> rfl
    · simp at hs
  unfold sumBy
  generalize edgs k l = E at this
  induction E with
  | nil => rfl
  | cons e E ih =>
    rw [List.map_cons, List.sum_cons, ih (fun x hx => this x (List.mem_cons_of_mem _ hx)), if_neg (fun q => h (q.1.symm.trans (this e List.mem_cons_self)))]
    rfl
theorem edgs_len (k : Int) (l : List S33) : (edgs k l).length ≤ 2 * l.length := by
  induction l with
  | nil => simp [edgs]
  | cons s l ih =>
    have e1 : edgs k (s :: l) = (if isP s = true then [⟨s.f0, k, 1⟩, ⟨s.f1, k, -1⟩] else []) ++ edgs k l := by simp [edgs]
    rw [e1, List.length_append, List.length_cons]
    split
    · simp only [List.length_cons, List.length_nil]; omega
    · simp only [List.length_nil]; omega
theorem edgs_mem {k : Int} {l : List S33} {e : S54} (h : e ∈ edgs k l) : e.f1 = k ∧ (e.f2 = 1 ∨ e.f2 = -1) ∧ -1152921504606846976 ≤ e.f0 ∧ e.f0 ≤ 1152921504606846976 := by
  simp only [edgs, List.mem_flatMap] at h
  obtain ⟨s, _, hs⟩ := h
  split at hs
  · rename_i hp
    have hp := (isP_iff s).1 hp
    simp at hs
    rcases hs with rfl | rfl
    · exact ⟨rfl, .inl rfl, by simp; omega, by simp; omega⟩
    · exact ⟨rfl, .inr rfl, by simp; omega, by simp; omega⟩
  · simp at hs
def nextAt (rest : List S54) (a : Int) : Bool := match rest with | [] => false | e :: _ => e.f0 == a
def up (c k : Int) (e : S54) : Int := if e.f1 = k then c + e.f2 else c
def sweep (q : Int → Int → Bool) : List S54 → Int → Int → Bool → Int → List S33 → List S33
  | [], _, _, _, _, out => out
  | e :: rest, c0, c1, ins, fr, out =>
    if (nextAt rest e.f0 || q (up c0 0 e) (up c1 1 e) == ins) = true then sweep q rest (up c0 0 e) (up c1 1 e) ins fr out
    else sweep q rest (up c0 0 e) (up c1 1 e) (!ins) e.f0 (if ins = true then out ++ [⟨fr, e.f0⟩] else out)
def okE (E : List S54) : Prop := ∀ e ∈ E, (e.f1 = 0 ∨ e.f1 = 1) ∧ (e.f2 = 1 ∨ e.f2 = -1)
theorem rd_E (E : List S54) (i : Nat) (h : i < E.length) : rd_T54 E (i : Int) = E[i] := by simp [rd_T54, List.getD_eq_getElem?_getD, List.getElem?_eq_getElem h]
theorem nextAt_drop (E : List S54) (i : Nat) (a : Int) : nextAt (E.drop (i + 1)) a = if h : i + 1 < E.length then (E[i + 1].f0 == a) else false := by
  by_cases h : i + 1 < E.length
  · rw [dif_pos h, List.drop_eq_getElem_cons h]
    rfl
  · rw [dif_neg h, List.drop_eq_nil_of_le (by omega)]
    rfl
set_option maxHeartbeats 1000000 in
theorem l2_sweep (pp : Int → Int → Option Bool) (q : Int → Int → Bool) (hpp : ∀ a b : Int, -1000000000 ≤ a → a ≤ 1000000000 → -1000000000 ≤ b → b ≤ 1000000000 → pp a b = some (q a b)) (E : List S54) (hE : okE E) (hl : E.length ≤ 1000000) :
    ∀ (d i : Nat) (c0 c1 : Int) (ins : Bool) (fr : Int) (out : List S33), i ≤ E.length → E.length - i = d → -(i : Int) ≤ c0 → c0 ≤ i → -(i : Int) ≤ c1 → c1 ≤ i → out.length ≤ i →
      Ev (fun k => span_combine.l2 pp k E out ins fr E (E.length : Int) (i : Int) c0 c1) (sweep q (E.drop i) c0 c1 ins fr out) := by
  intro d
  induction d with
  | zero =>
    intro i c0 c1 ins fr out h1 h2 _ _ _ _ _
    refine Ev.step (f := fun _ => some out) (fun k => ?_) ?_
    · simp only [span_combine.l2]
      rw [if_neg (by omega)]
    · rw [List.drop_eq_nil_of_le (by omega)]
      exact Ev.now _
  | succ d ih =>
    intro i c0 c1 ins fr out h1 h2 g1 g2 g3 g4 h3
    have hi : i < E.length := by omega
    obtain ⟨hk, hb⟩ := hE E[i] (List.getElem_mem hi)
    have er := rd_E E i hi
    have w1 : wrap64 ((i : Int) + 1) = ((i + 1 : Nat) : Int) := by unfold wrap64; omega
    rw [List.drop_eq_getElem_cons hi]
    simp only [sweep]
    rw [nextAt_drop]
    -- what follows a bound, whichever list it is of
    have b0 : -((i + 1 : Nat) : Int) ≤ up c0 0 E[i] ∧ up c0 0 E[i] ≤ ((i + 1 : Nat) : Int) := by unfold up; split <;> omega
    have b1 : -((i + 1 : Nat) : Int) ≤ up c1 1 E[i] ∧ up c1 1 E[i] ≤ ((i + 1 : Nat) : Int) := by unfold up; split <;> omega
    have A := ih (i + 1) (up c0 0 E[i]) (up c1 1 E[i]) ins fr out (by omega) (by omega) b0.1 b0.2 b1.1 b1.2 (by omega)
    have B := ih (i + 1) (up c0 0 E[i]) (up c1 1 E[i]) (!ins) E[i].f0 (if ins = true then out ++ [⟨fr, E[i].f0⟩] else out) (by omega) (by omega) b0.1 b0.2 b1.1 b1.2 (by cases ins with | true => rw [if_pos rfl, List.length_append]; simp only [List.length_cons, List.length_nil]; omega | false => rw [if_neg (by simp)]; omega)
    have J3 : ∀ (z : Bool) (x0 x1 x2 : Int), x0 = E[i].f0 → Ev (fun k => span_combine.j3 pp k E out ins fr E (E.length : Int) (i : Int) z (up c0 0 E[i]) (up c1 1 E[i]) x0 x1 x2) (if z = true then sweep q (E.drop (i + 1)) (up c0 0 E[i]) (up c1 1 E[i]) ins fr out else sweep q (E.drop (i + 1)) (up c0 0 E[i]) (up c1 1 E[i]) (!ins) E[i].f0 (if ins = true then out ++ [⟨fr, E[i].f0⟩] else out)) := by
      intro z x0 x1 x2 hx
      subst hx
      cases z with
      | true =>
        refine Ev.step (f := fun k => span_combine.l2 pp k E out ins fr E (E.length : Int) ((i + 1 : Nat) : Int) (up c0 0 E[i]) (up c1 1 E[i])) (fun k => ?_) A
        simp only [span_combine.j3, if_true, w1]
      | false =>
        refine Ev.step (f := fun k => span_combine.l2 pp k E (if ins = true then out ++ [⟨fr, E[i].f0⟩] else out) (!ins) E[i].f0 E (E.length : Int) ((i + 1 : Nat) : Int) (up c0 0 E[i]) (up c1 1 E[i])) (fun k => ?_) B
        simp only [span_combine.j3, w1]
        rw [if_neg (by simp)]
        cases ins with
        | true => rw [if_pos rfl, if_pos (by omega), if_pos rfl]
        | false => rw [if_neg (by simp), if_neg (by simp)]
    have J4 : ∀ (z : Bool) (x0 x1 x2 : Int), x0 = E[i].f0 → Ev (fun k => span_combine.j4 pp k E out ins fr E (E.length : Int) (i : Int) z (up c0 0 E[i]) (up c1 1 E[i]) x0 x1 x2) (if z = true then sweep q (E.drop (i + 1)) (up c0 0 E[i]) (up c1 1 E[i]) ins fr out else sweep q (E.drop (i + 1)) (up c0 0 E[i]) (up c1 1 E[i]) (!ins) E[i].f0 (if ins = true then out ++ [⟨fr, E[i].f0⟩] else out)) := by
      intro z x0 x1 x2 hx
      subst hx
      cases z with
      | true =>
        refine Ev.step (f := fun k => span_combine.l2 pp k E out ins fr E (E.length : Int) ((i + 1 : Nat) : Int) (up c0 0 E[i]) (up c1 1 E[i])) (fun k => ?_) A
        simp only [span_combine.j4, if_true, w1]
      | false =>
        refine Ev.step (f := fun k => span_combine.l2 pp k E (if ins = true then out ++ [⟨fr, E[i].f0⟩] else out) (!ins) E[i].f0 E (E.length : Int) ((i + 1 : Nat) : Int) (up c0 0 E[i]) (up c1 1 E[i])) (fun k => ?_) B
        simp only [span_combine.j4, w1]
        rw [if_neg (by simp)]
        cases ins with
        | true => rw [if_pos rfl, if_pos (by omega), if_pos rfl]
        | false => rw [if_neg (by simp), if_neg (by simp)]
    clear A B
    have hq : pp (up c0 0 E[i]) (up c1 1 E[i]) = some (q (up c0 0 E[i]) (up c1 1 E[i])) := hpp _ _ (by omega) (by omega) (by omega) (by omega)
    rcases hk with hk | hk
    · have e0 : wrap64 (c0 + E[i].f2) = up c0 0 E[i] := by
        unfold up
        rw [if_pos hk]
        unfold wrap64
        omega
      have e1 : up c1 1 E[i] = c1 := by unfold up; rw [if_neg (by omega)]
      have S : ∀ k, span_combine.l2 pp (k + 1) E out ins fr E (E.length : Int) (i : Int) c0 c1 = span_combine.j3 pp k E out ins fr E (E.length : Int) (i : Int) ((if h : i + 1 < E.length then (E[i + 1].f0 == E[i].f0) else false) || q (up c0 0 E[i]) (up c1 1 E[i]) == ins) (up c0 0 E[i]) (up c1 1 E[i]) E[i].f0 E[i].f1 E[i].f2 := by
        intro k
        simp only [span_combine.l2, er, w1, e0]
        rw [if_pos (by omega), if_pos (by omega), if_pos (by omega), if_pos hk]
        rw [e1] at hq ⊢
        by_cases h : i + 1 < E.length
        · rw [if_pos (by omega), if_pos (by omega), rd_E E (i + 1) h, dif_pos h]
          by_cases h5 : E[i + 1].f0 = E[i].f0
          · rw [if_pos h5, h5]
            simp
          · have h6 : (E[i + 1].f0 == E[i].f0) = false := by rw [beq_eq_false_iff_ne]; exact h5
            rw [if_neg h5, hq, h6]
            simp only [Option.bind_some, Bool.false_or]
        · rw [if_neg (by omega), dif_neg h, hq]
          simp only [Option.bind_some, Bool.false_or]
      exact Ev.step S (J3 _ _ _ _ rfl)
    · have e0 : wrap64 (c1 + E[i].f2) = up c1 1 E[i] := by
        unfold up
        rw [if_pos hk]
        unfold wrap64
        omega
      have e1 : up c0 0 E[i] = c0 := by unfold up; rw [if_neg (by omega)]
      have S : ∀ k, span_combine.l2 pp (k + 1) E out ins fr E (E.length : Int) (i : Int) c0 c1 = span_combine.j4 pp k E out ins fr E (E.length : Int) (i : Int) ((if h : i + 1 < E.length then (E[i + 1].f0 == E[i].f0) else false) || q (up c0 0 E[i]) (up c1 1 E[i]) == ins) (up c0 0 E[i]) (up c1 1 E[i]) E[i].f0 E[i].f1 E[i].f2 := by
        intro k
        simp only [span_combine.l2, er, w1, e0]
        rw [if_pos (by omega), if_pos (by omega), if_pos (by omega), if_neg (by omega), if_pos hk]
        rw [e1] at hq ⊢
        by_cases h : i + 1 < E.length
        · rw [if_pos (by omega), if_pos (by omega), rd_E E (i + 1) h, dif_pos h]
          by_cases h5 : E[i + 1].f0 = E[i].f0
          · rw [if_pos h5, h5]
            simp
          · have h6 : (E[i + 1].f0 == E[i].f0) = false := by rw [beq_eq_false_iff_ne]; exact h5
            rw [if_neg h5, hq, h6]
            simp only [Option.bind_some, Bool.false_or]
        · rw [if_neg (by omega), dif_neg h, hq]
          simp only [Option.bind_some, Bool.false_or]
      exact Ev.step S (J4 _ _ _ _ rfl)
end Go.Proofs.Ytgplnfhpeeifjaa.Q

namespace Go.Proofs.Ytgplnfhpeeifjaa.Q
open Go.RowKit Go.Proofs.YtgplnfhpeeifjaaW.PrintWords Go.Proofs.YtgplnfhpeeifjaaW.PrintLast Go.Proofs.YtgplnfhpeeifjaaW.PrintMore
set_option linter.unusedVariables false
set_option linter.unusedSimpArgs false
def tot (k : Int) (E : List S54) : Int := (E.map fun e => if e.f1 = k then e.f2 else 0).sum
theorem tot_append (k : Int) (E F : List S54) : tot k (E ++ F) = tot k E + tot k F := by simp [tot]
theorem tot_one (k : Int) (E : List S54) (e : S54) : tot k (E ++ [e]) = up (tot k E) k e := by
  rw [tot_append]
  simp only [tot, up, List.map_cons, List.map_nil, List.sum_cons, List.sum_nil]
  split <;> omega
theorem sumBy_all (k n : Int) (E : List S54) (h : ∀ e ∈ E, e.f0 ≤ n) : sumBy k n E = tot k E := by
  induction E with
  | nil => rfl
  | cons e E ih =>
    have h1 := h e List.mem_cons_self
    have h2 := ih (fun x hx => h x (List.mem_cons_of_mem _ hx))
    simp only [sumBy, tot, List.map_cons, List.sum_cons] at h2 ⊢
    rw [h2]
    by_cases q : e.f1 = k
    · rw [if_pos ⟨q, h1⟩, if_pos q]
    · rw [if_neg (fun z => q z.1), if_neg q]
theorem sumBy_none (k n : Int) (E : List S54) (h : ∀ e ∈ E, n < e.f0) : sumBy k n E = 0 := by
  induction E with
  | nil => rfl
  | cons e E ih =>
    have h1 := h e List.mem_cons_self
    have h2 := ih (fun x hx => h x (List.mem_cons_of_mem _ hx))
    simp only [sumBy, List.map_cons, List.sum_cons] at h2 ⊢
    rw [h2, if_neg (by omega)]
    rfl
def NF (l : List S33) : Prop := l.Pairwise (fun s t => s.f1 < t.f0) ∧ ∀ s ∈ l, isP s = true
def hd (rest : List S54) (P : S54 → Prop) : Prop := match rest with | [] => True | e :: _ => P e
def Sorted (E : List S54) : Prop := E.Pairwise (fun a b => a.f0 ≤ b.f0)
theorem mem_cons (s : S33) (l : List S33) (n : Int) : mem (s :: l) n = (inS n s || mem l n) := by simp [mem]
theorem mem_append (l m : List S33) (n : Int) : mem (l ++ m) n = (mem l n || mem m n) := by simp [mem]
theorem mem_far (l : List S33) (n : Int) (h : ∀ s ∈ l, s.f1 ≤ n) : mem l n = false := by
  by_cases q : mem l n = true
  · obtain ⟨s, hs, hn⟩ := List.any_eq_true.1 q
    have := (inS_iff n s).1 hn
    have := h s hs
    omega
  · simpa using q
theorem mem_near (l : List S33) (n : Int) (h : ∀ s ∈ l, n < s.f0) : mem l n = false := by
  by_cases q : mem l n = true
  · obtain ⟨s, hs, hn⟩ := List.any_eq_true.1 q
    have := (inS_iff n s).1 hn
    have := h s hs
    omega
  · simpa using q
structure Inv (q : Int → Int → Bool) (E D rest : List S54) (ins : Bool) (fr : Int) (out : List S33) : Prop where
  set : ∀ n, hd rest (fun e => n < e.f0) → q (sumBy 0 n E) (sumBy 1 n E) = (mem out n || (ins && decide (fr ≤ n)))
  nf : NF out
  lt : ∀ s ∈ out, (ins = true → s.f1 < fr) ∧ hd rest (fun e => s.f1 < e.f0)
  fr_ : ins = true → -1152921504606846976 ≤ fr ∧ hd rest (fun e => fr < e.f0)
  now : (∀ d ∈ D, hd rest (fun e => d.f0 < e.f0)) → D ≠ [] → ins = q (tot 0 D) (tot 1 D)
set_option maxHeartbeats 1000000 in
theorem sweep_spec (q : Int → Int → Bool) (E : List S54) (hS : Sorted E) (hB : ∀ e ∈ E, -1152921504606846976 ≤ e.f0 ∧ e.f0 ≤ 1152921504606846976) :
    ∀ (rest D : List S54) (ins : Bool) (fr : Int) (out : List S33), E = D ++ rest → Inv q E D rest ins fr out →
      ∃ ins' fr' , Inv q E E [] ins' fr' (sweep q rest (tot 0 D) (tot 1 D) ins fr out) := by
  intro rest
  induction rest with
  | nil =>
    intro D ins fr out he hI
    rw [List.append_nil] at he
    subst he
    exact ⟨ins, fr, hI⟩
  | cons e rest ih =>
    intro D ins fr out he hI
    have he2 : E = (D ++ [e]) ++ rest := by rw [he, List.append_assoc]; rfl
    have hS2 := hS
    rw [he] at hS2
    have hS2 := List.pairwise_append.1 hS2
    obtain ⟨_, hR, hDR⟩ := hS2
    have hR2 := List.pairwise_cons.1 hR
    have hDe : ∀ d ∈ D, d.f0 ≤ e.f0 := fun d hd_ => hDR d hd_ e List.mem_cons_self
    have hbe := hB e (by rw [he]; simp)
    simp only [sweep]
    rw [← tot_one, ← tot_one]
    by_cases hn : nextAt rest e.f0 = true
    · rw [hn, Bool.true_or, if_pos rfl]
      refine ih (D ++ [e]) ins fr out he2 ?_
      cases rest with
      | nil => simp [nextAt] at hn
      | cons e' r' =>
        have h0 : e'.f0 = e.f0 := by simpa [nextAt] using hn
        refine ⟨fun n hh => hI.set n ?_, hI.nf, fun s hs => ⟨(hI.lt s hs).1, ?_⟩, fun h => ⟨(hI.fr_ h).1, ?_⟩, fun h _ => ?_⟩
        · simp only [hd] at hh ⊢; omega
        · have := (hI.lt s hs).2; simp only [hd] at this ⊢; omega
        · have := (hI.fr_ h).2; simp only [hd] at this ⊢; omega
        · have := h e (by simp)
          simp only [hd] at this
          omega
    · have hn0 : nextAt rest e.f0 = false := by simpa using hn
      rw [hn0, Bool.false_or]
      -- all that follows begins behind e
      have hlate : ∀ x ∈ rest, e.f0 < x.f0 := by
        intro x hx
        cases rest with
        | nil => simp at hx
        | cons e' r' =>
          have h0 : e'.f0 ≠ e.f0 := by simpa [nextAt] using hn0
          have h1 := hR2.1 e' List.mem_cons_self
          have h2 : e'.f0 ≤ x.f0 := by
            rcases List.mem_cons.1 hx with rfl | hx
            · exact Int.le_refl _
            · exact (List.pairwise_cons.1 hR2.2).1 x hx
          omega
      have hhd : hd rest (fun x => e.f0 < x.f0) := by
        cases rest with
        | nil => trivial
        | cons e' r' => exact hlate e' List.mem_cons_self
      have hval : ∀ n, e.f0 ≤ n → hd rest (fun x => n < x.f0) → q (sumBy 0 n E) (sumBy 1 n E) = q (tot 0 (D ++ [e])) (tot 1 (D ++ [e])) := by
        intro n h1 h2
        have h3 : ∀ x ∈ rest, n < x.f0 := by
          intro x hx
          cases rest with
          | nil => simp at hx
          | cons e' r' =>
            rcases List.mem_cons.1 hx with rfl | hx'
            · exact h2
            · have := (List.pairwise_cons.1 hR2.2).1 x hx'
              simp only [hd] at h2
              omega
        have h4 : ∀ k, sumBy k n E = tot k (D ++ [e]) := by
          intro k
          rw [he2, sumBy_append, sumBy_none k n rest h3, sumBy_all k n (D ++ [e])]
          · omega
          · intro x hx
            rcases List.mem_append.1 hx with hx | hx
            · have := hDe x hx; omega
            · simp at hx; subst hx; exact h1
        rw [h4 0, h4 1]
      generalize hv : q (tot 0 (D ++ [e])) (tot 1 (D ++ [e])) = v at hval
      have hltout : ∀ s ∈ out, s.f1 < e.f0 := fun s hs => (hI.lt s hs).2
      by_cases hc : v = ins
      · subst hc
        rw [if_pos (by simp)]
        refine ih (D ++ [e]) v fr out he2 ⟨fun n hh => ?_, hI.nf, fun s hs => ⟨(hI.lt s hs).1, ?_⟩, fun h => ⟨(hI.fr_ h).1, ?_⟩, fun _ _ => hv.symm⟩
        · by_cases h1 : n < e.f0
          · exact hI.set n h1
          · rw [hval n (by omega) hh, mem_far out n (fun s hs => by have := hltout s hs; omega), Bool.false_or]
            cases v with
            | false => rfl
            | true =>
              have := (hI.fr_ rfl).2
              simp only [hd] at this
              simp only [Bool.true_and]
              rw [decide_eq_true (by omega)]
        · have := hltout s hs
          cases rest with
          | nil => trivial
          | cons e' r' => simp only [hd] at hhd ⊢; omega
        · have := (hI.fr_ h).2
          cases rest with
          | nil => trivial
          | cons e' r' => simp only [hd] at this hhd ⊢; omega
      · rw [if_neg (by simpa using hc)]
        cases ins with
        | true =>
          have hv0 : v = false := by simpa using hc
          subst hv0
          have hf := hI.fr_ rfl
          have hf2 := hf.2
          simp only [hd] at hf2
          have hnew : isP (⟨fr, e.f0⟩ : S33) = true := (isP_iff _).2 ⟨hf.1, hbe.2, hf2⟩
          rw [if_pos rfl]
          refine ih (D ++ [e]) false e.f0 _ he2 ⟨fun n hh => ?_, ⟨?_, ?_⟩, fun s hs => ⟨fun h => by simp at h, ?_⟩, fun h => by simp at h, fun _ _ => hv.symm⟩
          · rw [mem_append, Bool.false_and, Bool.or_false]
            have e1 : mem [(⟨fr, e.f0⟩ : S33)] n = (decide (fr ≤ n) && decide (n < e.f0)) := by
              have := inS_iff n (⟨fr, e.f0⟩ : S33)
              rw [Bool.eq_iff_iff]
              simp only [mem, List.any_cons, List.any_nil, Bool.or_false, Bool.and_eq_true, decide_eq_true_eq]
              rw [this]
              exact ⟨fun h => h.2, fun h => ⟨hnew, h⟩⟩
            rw [e1]
            by_cases h1 : n < e.f0
            · rw [hI.set n h1, decide_eq_true h1, Bool.and_true, Bool.true_and]
            · rw [hval n (by omega) hh, mem_far out n (fun s hs => by have := hltout s hs; omega), decide_eq_false h1]
              simp
          · refine List.pairwise_append.2 ⟨hI.nf.1, List.pairwise_singleton _ _, fun s hs t ht => ?_⟩
            simp at ht
            subst ht
            exact (hI.lt s hs).1 rfl
          · intro s hs
            rcases List.mem_append.1 hs with hs | hs
            · exact hI.nf.2 s hs
            · simp at hs
              subst hs
              exact hnew
          · rcases List.mem_append.1 hs with hs | hs
            · have := hltout s hs
              cases rest with
              | nil => trivial
              | cons e' r' => simp only [hd] at hhd ⊢; omega
            · simp at hs
              subst hs
              exact hhd
        | false =>
          have hv0 : v = true := by simpa using hc
          subst hv0
          rw [if_neg (by simp)]
          refine ih (D ++ [e]) true e.f0 out he2 ⟨fun n hh => ?_, hI.nf, fun s hs => ⟨fun _ => hltout s hs, ?_⟩, fun _ => ⟨hbe.1, hhd⟩, fun _ _ => hv.symm⟩
          · by_cases h1 : n < e.f0
            · rw [hI.set n h1, Bool.false_and, Bool.or_false, decide_eq_false (show ¬ e.f0 ≤ n by omega)]
              simp
            · rw [hval n (by omega) hh, decide_eq_true (show e.f0 ≤ n by omega)]
              simp
          · have := hltout s hs
            cases rest with
            | nil => trivial
            | cons e' r' => simp only [hd] at hhd ⊢; omega
theorem sweep_len (q : Int → Int → Bool) : ∀ (rest : List S54) (c0 c1 : Int) (ins : Bool) (fr : Int) (out : List S33), (sweep q rest c0 c1 ins fr out).length ≤ out.length + rest.length := by
  intro rest
  induction rest with
  | nil => intro c0 c1 ins fr out; simp [sweep]
  | cons e rest ih =>
    intro c0 c1 ins fr out
    simp only [sweep]
    split
    · have := ih (up c0 0 e) (up c1 1 e) ins fr out
      rw [List.length_cons]
      omega
    · have := ih (up c0 0 e) (up c1 1 e) (!ins) e.f0 (if ins = true then out ++ [⟨fr, e.f0⟩] else out)
      have h2 : (if ins = true then out ++ [(⟨fr, e.f0⟩ : S33)] else out).length ≤ out.length + 1 := by
        split
        · rw [List.length_append]; simp
        · omega
      rw [List.length_cons]
      omega
theorem rd_S (l : List S33) (i : Nat) (h : i < l.length) : rd_T33 l (i : Int) = l[i] := by simp [rd_T33, List.getD_eq_getElem?_getD, List.getElem?_eq_getElem h]
theorem proper_f (s : S33) : span_proper.f s.f0 s.f1 = some (isP s) := by rw [has_proper]; rfl
theorem l1_edges (pp : Int → Int → Option Bool) (k0 : Int) (x16 : List (List S33)) (x17 x18 : Int) (l : List S33) (hl : l.length ≤ 100000) {r : List S33} :
    ∀ (d i : Nat) (x5 : List S54), i ≤ l.length → l.length - i = d → x5.length + 2 * d ≤ 1000000 →
      Ev (fun k => span_combine.l0 pp k (x5 ++ edgs k0 (l.drop i)) x16 x17 (wrap64 (x18 + 1))) r → Ev (fun k => span_combine.l1 pp k x5 k0 x16 x17 x18 l (l.length : Int) (i : Int)) r := by
  intro d
  induction d with
  | zero =>
    intro i x5 h1 h2 h3 h
    have hi : i = l.length := by omega
    subst hi
    rw [List.drop_length] at h
    refine Ev.step (fun k => ?_) h
    simp only [span_combine.l1]
    rw [if_neg (by omega)]
    simp [edgs]
  | succ d ih =>
    intro i x5 h1 h2 h3 h
    have hi : i < l.length := by omega
    have w1 : wrap64 ((i : Int) + 1) = ((i + 1 : Nat) : Int) := by unfold wrap64; omega
    have er := rd_S l i hi
    rw [List.drop_eq_getElem_cons hi] at h
    have e1 : edgs k0 (l[i] :: l.drop (i + 1)) = (if isP l[i] = true then [⟨l[i].f0, k0, 1⟩, ⟨l[i].f1, k0, -1⟩] else []) ++ edgs k0 (l.drop (i + 1)) := by unfold edgs; rw [List.flatMap_cons]
    rw [e1, ← List.append_assoc] at h
    have A := ih (i + 1) (x5 ++ (if isP l[i] = true then [⟨l[i].f0, k0, 1⟩, ⟨l[i].f1, k0, -1⟩] else [])) (by omega) (by omega) (by rw [List.length_append]; split <;> simp only [List.length_cons, List.length_nil] <;> omega) h
    refine Ev.step (fun k => ?_) A
    simp only [span_combine.l1, er, w1]
    rw [if_pos (by omega), if_pos (by omega), if_pos (by omega), proper_f]
    simp only [Option.bind_some]
    by_cases hp : isP l[i] = true
    · rw [if_pos hp, if_pos hp, if_pos (by simp only [List.length_cons, List.length_nil]; omega)]
    · rw [if_neg hp, if_neg hp, List.append_nil]
theorem combine_spec (pp : Int → Int → Option Bool) (q : Int → Int → Bool) (hpp : ∀ a b : Int, -1000000000 ≤ a → a ≤ 1000000000 → -1000000000 ≤ b → b ≤ 1000000000 → pp a b = some (q a b)) (h00 : q 0 0 = false)
    (a b : List S33) (ha : a.length ≤ 100000) (hb : b.length ≤ 100000) :
    ∃ r, Ev (fun k => span_combine.f pp k [a, b]) r ∧ NF r ∧ (∀ n, mem r n = q (cnt a n) (cnt b n)) ∧ r.length ≤ 2 * a.length + 2 * b.length := by
  have la := edgs_len 0 a
  have lb := edgs_len 1 b
  have hp := (sortd_size ord_swo (edgs 0 a ++ edgs 1 b))
  generalize hE : sortd ordCmp (edgs 0 a ++ edgs 1 b) = E at hp
  obtain ⟨hperm, hsort⟩ := hp
  have hlen : E.length = (edgs 0 a).length + (edgs 1 b).length := by rw [hperm.length_eq, List.length_append]
  have hmem : ∀ e ∈ E, (e.f1 = 0 ∨ e.f1 = 1) ∧ (e.f2 = 1 ∨ e.f2 = -1) ∧ -1152921504606846976 ≤ e.f0 ∧ e.f0 ≤ 1152921504606846976 := by
    intro e he
    rcases List.mem_append.1 (hperm.mem_iff.1 he) with h | h
    · have := edgs_mem h
      exact ⟨.inl this.1, this.2⟩
    · have := edgs_mem h
      exact ⟨.inr this.1, this.2⟩
  have hokE : okE E := fun e he => ⟨(hmem e he).1, (hmem e he).2.1⟩
  have hSorted : Sorted E := by
    unfold Sorted
    rw [List.pairwise_iff_getElem]
    intro i j hi hj hij
    have := hsort i j hij (by rw [← hperm.length_eq]; exact hj)
    rw [getElem!_pos E i hi, getElem!_pos E j hj, ord_lt] at this
    simpa using this
  have hsum : ∀ n, sumBy 0 n E = cnt a n ∧ sumBy 1 n E = cnt b n := by
    intro n
    constructor
    · rw [sumBy_perm 0 n hperm, sumBy_append, sumBy_edgs, sumBy_other 1 0 n (by omega)]; omega
    · rw [sumBy_perm 1 n hperm, sumBy_append, sumBy_edgs, sumBy_other 0 1 n (by omega)]; omega
  have hinit : Inv q E [] E false 0 [] := by
    refine ⟨fun n hh => ?_, ⟨List.Pairwise.nil, by simp⟩, by simp, by simp, by simp⟩
    have : ∀ x ∈ E, n < x.f0 := by
      intro x hx
      cases E with
      | nil => simp at hx
      | cons e r =>
        rcases List.mem_cons.1 hx with rfl | hx'
        · exact hh
        · have := (List.pairwise_cons.1 hSorted).1 x hx'
          simp only [hd] at hh
          omega
    rw [sumBy_none 0 n E this, sumBy_none 1 n E this, h00]
    rfl
  obtain ⟨ins', fr', hI⟩ := sweep_spec q E hSorted (fun e he => (hmem e he).2.2) E [] false 0 [] rfl hinit
  have t0 : tot 0 ([] : List S54) = 0 := rfl
  have t1 : tot 1 ([] : List S54) = 0 := rfl
  rw [t0, t1] at hI
  have hins : ins' = false ∨ E = [] := by
    by_cases hE0 : E = []
    · exact .inr hE0
    · refine .inl ?_
      have h := hI.now (fun _ _ => trivial) hE0
      have z : ∀ k, tot k E = sumBy k 1152921504606846976 E := fun k => (sumBy_all k _ E (fun e he => (hmem e he).2.2.2)).symm
      have cz : ∀ l : List S33, cnt l 1152921504606846976 = 0 := by
        intro l
        unfold cnt
        rw [List.filter_eq_nil_iff.2]
        · rfl
        · intro s hs hn
          have := (inS_iff _ s).1 hn
          have := (isP_iff s).1 this.1
          omega
      rw [z 0, z 1, (hsum _).1, (hsum _).2, cz a, cz b, h00] at h
      exact h
  have hset : ∀ n, mem (sweep q E 0 0 false 0 []) n = q (cnt a n) (cnt b n) := by
    intro n
    have h := hI.set n trivial
    rw [(hsum n).1, (hsum n).2] at h
    rcases hins with h0 | h0
    · rw [h, h0, Bool.false_and, Bool.or_false]
    · subst h0
      have := hsum n
      have e0 : cnt a n = 0 := this.1.symm
      have e1 : cnt b n = 0 := this.2.symm
      rw [e0, e1, h00]
      rfl
  refine ⟨sweep q E 0 0 false 0 [], ?_, hI.nf, hset, ?_⟩
  · have hl2 := l2_sweep pp q hpp E hokE (by omega) (E.length - 0) 0 0 0 false 0 [] (Nat.zero_le _) rfl (by omega) (by omega) (by omega) (by omega) (by simp)
    have hl0 : Ev (fun k => span_combine.l0 pp k (edgs 0 a ++ edgs 1 b) [a, b] 2 2) (sweep q E 0 0 false 0 []) := by
      refine Ev.step (fun k => ?_) hl2
      simp only [span_combine.l0]
      rw [if_neg (by omega)]
      unfold span_edge__span_combine_1.f
      rw [if_pos (by rw [List.length_append]; omega), hE]
      rfl
    have hb1 := l1_edges pp 1 [a, b] 2 1 b hb (b.length - 0) 0 (edgs 0 a) (Nat.zero_le _) rfl (by omega) (r := sweep q E 0 0 false 0 []) (by rw [List.drop_zero, show wrap64 (1 + 1) = 2 by unfold wrap64; omega]; exact hl0)
    have hl1 : Ev (fun k => span_combine.l0 pp k (edgs 0 a) [a, b] 2 1) (sweep q E 0 0 false 0 []) := by
      refine Ev.step (fun k => ?_) hb1
      simp only [span_combine.l0]
      rw [if_pos (by omega), if_pos (by omega), if_pos (by simp)]
      rfl
    have ha1 := l1_edges pp 0 [a, b] 2 0 a ha (a.length - 0) 0 [] (Nat.zero_le _) rfl (by simp; omega) (r := sweep q E 0 0 false 0 []) (by rw [List.drop_zero, List.nil_append, show wrap64 (0 + 1) = 1 by unfold wrap64; omega]; exact hl1)
    refine Ev.step (g := fun k => span_combine.f pp k [a, b]) (fun k => ?_) ha1
    unfold span_combine.f
    simp only [span_combine.l0, List.length_cons, List.length_nil]
    rw [if_pos (by omega), if_pos (by omega), if_pos (by omega)]
    rfl
  · have := sweep_len q E 0 0 false 0 []
    rw [List.length_nil] at this
    omega
end Go.Proofs.Ytgplnfhpeeifjaa.Q

namespace Go.Proofs.Ytgplnfhpeeifjaa.Q
open Go.RowKit Go.Proofs.YtgplnfhpeeifjaaW.PrintWords Go.Proofs.YtgplnfhpeeifjaaW.PrintLast Go.Proofs.YtgplnfhpeeifjaaW.PrintMore
set_option linter.unusedVariables false
set_option linter.unusedSimpArgs false
instance : DecidableEq S33 := fun a b => decidable_of_iff (a.f0 = b.f0 ∧ a.f1 = b.f1) (by cases a; cases b; simp)
theorem nf_first {s : S33} {l : List S33} (h : NF (s :: l)) (n : Int) (hn : mem (s :: l) n = true) : s.f0 ≤ n := by
  obtain ⟨t, ht, hi⟩ := List.any_eq_true.1 hn
  have hi := (inS_iff n t).1 hi
  rcases List.mem_cons.1 ht with rfl | ht
  · exact hi.2.1
  · have h1 := (List.pairwise_cons.1 h.1).1 t ht
    have h2 := (isP_iff s).1 (h.2 s List.mem_cons_self)
    omega
theorem nf_tail {s : S33} {l : List S33} (h : NF (s :: l)) : NF l := ⟨(List.pairwise_cons.1 h.1).2, fun t ht => h.2 t (List.mem_cons_of_mem _ ht)⟩
theorem nf_rest {s : S33} {l : List S33} (h : NF (s :: l)) (n : Int) : mem l n = (mem (s :: l) n && decide (s.f1 < n)) := by
  have hp := (isP_iff s).1 (h.2 s List.mem_cons_self)
  rw [mem_cons]
  by_cases h1 : s.f1 < n
  · have : inS n s = false := by
      by_cases q : inS n s = true
      · have := (inS_iff n s).1 q; omega
      · simpa using q
    rw [this, decide_eq_true h1]
    simp
  · rw [decide_eq_false h1, Bool.and_false]
    refine mem_near l n (fun t ht => ?_)
    have := (List.pairwise_cons.1 h.1).1 t ht
    omega
theorem nf_unique : ∀ (l m : List S33), NF l → NF m → (∀ n, mem l n = mem m n) → l = m := by
  intro l
  induction l with
  | nil =>
    intro m _ hm h
    cases m with
    | nil => rfl
    | cons t m =>
      have ht := (isP_iff t).1 (hm.2 t List.mem_cons_self)
      have := h t.f0
      rw [mem_cons, (inS_iff t.f0 t).2 ⟨hm.2 t List.mem_cons_self, by omega, by omega⟩] at this
      simp [mem] at this
  | cons s l ih =>
    intro m hl hm h
    have hs := (isP_iff s).1 (hl.2 s List.mem_cons_self)
    have is : mem (s :: l) s.f0 = true := by rw [mem_cons, (inS_iff s.f0 s).2 ⟨hl.2 s List.mem_cons_self, by omega, by omega⟩]; rfl
    cases m with
    | nil => rw [h] at is; simp [mem] at is
    | cons t m =>
      have ht := (isP_iff t).1 (hm.2 t List.mem_cons_self)
      have it : mem (t :: m) t.f0 = true := by rw [mem_cons, (inS_iff t.f0 t).2 ⟨hm.2 t List.mem_cons_self, by omega, by omega⟩]; rfl
      have e0 : s.f0 = t.f0 := by
        have h1 := nf_first hl t.f0 (by rw [h]; exact it)
        have h2 := nf_first hm s.f0 (by rw [← h]; exact is)
        omega
      have out : ∀ {a : S33} {k : List S33}, NF (a :: k) → mem (a :: k) a.f1 = false := by
        intro a k hk
        rw [mem_cons]
        have h1 : inS a.f1 a = false := by
          by_cases q : inS a.f1 a = true
          · have := (inS_iff a.f1 a).1 q; omega
          · simpa using q
        rw [h1, mem_near k a.f1 (fun x hx => (List.pairwise_cons.1 hk.1).1 x hx)]
        rfl
      have e1 : s.f1 = t.f1 := by
        rcases Int.lt_trichotomy s.f1 t.f1 with h1 | h1 | h1
        · have := out hl
          rw [h, mem_cons, (inS_iff s.f1 t).2 ⟨hm.2 t List.mem_cons_self, by omega, by omega⟩] at this
          simp at this
        · exact h1
        · have := out hm
          rw [← h, mem_cons, (inS_iff t.f1 s).2 ⟨hl.2 s List.mem_cons_self, by omega, by omega⟩] at this
          simp at this
      have e : s = t := by cases s; cases t; simp at e0 e1; simp [e0, e1]
      subst e
      rw [ih m (nf_tail hl) (nf_tail hm) (fun n => by rw [nf_rest hl, nf_rest hm, h])]
abbrev small (l : List S33) : Prop := l.length ≤ 100000
theorem union_spec (a b : List S33) (ha : small a) (hb : small b) : ∃ r, Ev (fun k => span_Union.f k a b) r ∧ NF r ∧ (∀ n, mem r n = (mem a n || mem b n)) ∧ r.length ≤ 2 * a.length + 2 * b.length := by
  obtain ⟨r, h1, h2, h3, h4⟩ := combine_spec span_Union_1.f (fun x y => decide (wrap64 (x + y) > 0)) (fun x y _ _ _ _ => rfl) (by unfold wrap64; decide) a b ha hb
  refine ⟨r, ?_, h2, fun n => ?_, h4⟩
  · refine Ev.congr (f := fun k => (span_combine.f span_Union_1.f k [a, b]).bind some) (fun k => ?_) (Ev.bind h1 (Ev.now _))
    rfl
  · rw [h3]
    have x0 := cnt_nonneg a n
    have y0 := cnt_nonneg b n
    have x1 := cnt_le a n
    have y1 := cnt_le b n
    have w : wrap64 (cnt a n + cnt b n) = cnt a n + cnt b n := by unfold wrap64; unfold small at ha hb; omega
    rw [w, ← cnt_pos, ← cnt_pos]
    by_cases p : cnt a n > 0 <;> by_cases q : cnt b n > 0 <;> simp [p, q] <;> omega
theorem meet_spec (a b : List S33) (ha : small a) (hb : small b) : ∃ r, Ev (fun k => span_Meet.f k a b) r ∧ NF r ∧ (∀ n, mem r n = (mem a n && mem b n)) ∧ r.length ≤ 2 * a.length + 2 * b.length := by
  obtain ⟨r, h1, h2, h3, h4⟩ := combine_spec span_Meet_1.f (fun x y => decide (x > 0) && decide (y > 0)) (fun x y _ _ _ _ => by unfold span_Meet_1.f; by_cases h : x > 0 <;> simp [h]) (by decide) a b ha hb
  refine ⟨r, ?_, h2, fun n => ?_, h4⟩
  · exact Ev.congr (f := fun k => (span_combine.f span_Meet_1.f k [a, b]).bind some) (fun k => rfl) (Ev.bind h1 (Ev.now _))
  · rw [h3, cnt_pos, cnt_pos]
theorem minus_spec (a b : List S33) (ha : small a) (hb : small b) : ∃ r, Ev (fun k => span_Minus.f k a b) r ∧ NF r ∧ (∀ n, mem r n = (mem a n && !mem b n)) ∧ r.length ≤ 2 * a.length + 2 * b.length := by
  obtain ⟨r, h1, h2, h3, h4⟩ := combine_spec span_Minus_1.f (fun x y => decide (x > 0) && (y == 0)) (fun x y _ _ _ _ => by unfold span_Minus_1.f; by_cases h : x > 0 <;> simp [h]) (by decide) a b ha hb
  refine ⟨r, ?_, h2, fun n => ?_, h4⟩
  · exact Ev.congr (f := fun k => (span_combine.f span_Minus_1.f k [a, b]).bind some) (fun k => rfl) (Ev.bind h1 (Ev.now _))
  · rw [h3, cnt_pos, cnt_zero]
theorem normal_spec (a : List S33) (ha : small a) : ∃ r, Ev (fun k => span_Normal.f k a) r ∧ NF r ∧ (∀ n, mem r n = mem a n) ∧ r.length ≤ 2 * a.length := by
  obtain ⟨r, h1, h2, h3, h4⟩ := union_spec a [] ha (by simp [small])
  refine ⟨r, Ev.congr (f := fun k => (span_Union.f k a []).bind some) (fun k => rfl) (Ev.bind h1 (Ev.now _)), h2, fun n => ?_, by simpa using h4⟩
  rw [h3]
  simp [mem]
theorem has_spec (l : List S33) (n : Int) (hl : small l) : span_Has.f l n = some (mem l n) := by
  unfold span_Has.f
  rw [if_pos (by unfold small at hl; omega)]
  rfl
def size (l : List S33) : Int := (l.map fun s => s.f1 - s.f0).sum
theorem nf_size {l : List S33} (h : NF l) (lo : Int) (hlo : ∀ s ∈ l, lo ≤ s.f0) (hlo2 : lo ≤ 1152921504606846976) : 0 ≤ size l ∧ size l ≤ 1152921504606846976 - lo := by
  induction l generalizing lo with
  | nil => simp [size]; omega
  | cons s l ih =>
    have hp := (isP_iff s).1 (h.2 s List.mem_cons_self)
    have h0 := hlo s List.mem_cons_self
    have := ih (nf_tail h) s.f1 (fun t ht => by have := (List.pairwise_cons.1 h.1).1 t ht; omega) (by omega)
    simp only [size, List.map_cons, List.sum_cons] at this ⊢
    omega
theorem nf_low {l : List S33} (h : NF l) : ∀ s ∈ l, -1152921504606846976 ≤ s.f0 := fun s hs => ((isP_iff s).1 (h.2 s hs)).1
theorem nf_size' {l : List S33} (h : NF l) : 0 ≤ size l ∧ size l ≤ 2305843009213693952 := by
  have := nf_size h (-1152921504606846976) (nf_low h) (by omega)
  omega
theorem size_drop (l : List S33) (i : Nat) (h : i < l.length) : size (l.drop i) = l[i].f1 - l[i].f0 + size (l.drop (i + 1)) := by
  rw [List.drop_eq_getElem_cons h]
  unfold size
  rw [List.map_cons, List.sum_cons]
theorem nf_drop {l : List S33} (h : NF l) (i : Nat) : NF (l.drop i) := ⟨h.1.sublist (List.drop_sublist _ _), fun s hs => h.2 s (List.mem_of_mem_drop hs)⟩
theorem size_loop (r : List S33) (hr : NF r) (hl : r.length ≤ 100000000) : ∀ (d i : Nat) (x : Int), i ≤ r.length → r.length - i = d → x + size (r.drop i) ≤ 2305843009213693952 → 0 ≤ x → Ev (fun k => span_Size.l0 k x r (r.length : Int) (i : Int)) (x + size (r.drop i)) := by
  intro d
  induction d with
  | zero =>
    intro i x h1 h2 h3 h4
    refine Ev.step (f := fun _ => some x) (fun k => ?_) ?_
    · simp only [span_Size.l0]
      rw [if_neg (by omega)]
    · rw [List.drop_eq_nil_of_le (by omega)]
      have : x + size [] = x := by simp [size]
      rw [this]
      exact Ev.now _
  | succ d ih =>
    intro i x h1 h2 h3 h4
    have hi : i < r.length := by omega
    have w1 : wrap64 ((i : Int) + 1) = ((i + 1 : Nat) : Int) := by unfold wrap64; omega
    have hs := size_drop r i hi
    have hp := (isP_iff r[i]).1 (hr.2 _ (List.getElem_mem hi))
    have hn := nf_size' (nf_drop hr (i + 1))
    have w2 : wrap64 (x + wrap64 (r[i].f1 - r[i].f0)) = x + (r[i].f1 - r[i].f0) := by unfold wrap64; omega
    have e : x + size (r.drop i) = (x + (r[i].f1 - r[i].f0)) + size (r.drop (i + 1)) := by omega
    rw [e]
    refine Ev.step (fun k => ?_) (ih (i + 1) (x + (r[i].f1 - r[i].f0)) (by omega) (by omega) (by omega) (by omega))
    simp only [span_Size.l0, rd_S r i hi, w1, w2]
    rw [if_pos (by omega), if_pos (by omega), if_pos (by omega)]
theorem size_spec (a r : List S33) (ha : small a) (hr : NF r) (h : ∀ n, mem r n = mem a n) : Ev (fun k => span_Size.f k a) (size r) := by
  obtain ⟨r2, h1, h2, h3, h4⟩ := normal_spec a ha
  obtain rfl : r2 = r := nf_unique _ _ h2 hr (fun n => by rw [h3, h])
  refine Ev.bind (f := fun k t => span_Size.l0 k 0 t (t.length : Int) 0) h1 ?_
  have hz := nf_size' hr
  have := size_loop r2 hr (by unfold small at ha; omega) (r2.length - 0) 0 0 (Nat.zero_le _) rfl (by rw [List.drop_zero]; omega) (Int.le_refl _)
  rw [List.drop_zero, Int.zero_add] at this
  exact this
theorem equal_loop (a b : List S33) (h : a.length = b.length) (hl : a.length ≤ 100000000) : ∀ (d i : Nat), i ≤ a.length → a.length - i = d → Ev (fun k => api_Span__span_Valid_1.l0 k b a (a.length : Int) (i : Int)) (decide (a.drop i = b.drop i)) := by
  intro d
  induction d with
  | zero =>
    intro i h1 h2
    refine Ev.step (f := fun _ => some true) (fun k => ?_) ?_
    · simp only [api_Span__span_Valid_1.l0]
      rw [if_neg (by omega)]
    · rw [List.drop_eq_nil_of_le (by omega), List.drop_eq_nil_of_le (by omega)]
      exact Ev.now _
  | succ d ih =>
    intro i h1 h2
    have hi : i < a.length := by omega
    have hj : i < b.length := by omega
    have w1 : wrap64 ((i : Int) + 1) = ((i + 1 : Nat) : Int) := by unfold wrap64; omega
    have e1 := rd_S a i hi
    have e2 := rd_S b i hj
    have hd : decide (a.drop i = b.drop i) = ((a[i].f0 == b[i].f0 && (a[i].f1 == b[i].f1)) && decide (a.drop (i + 1) = b.drop (i + 1))) := by
      rw [List.drop_eq_getElem_cons hi, List.drop_eq_getElem_cons hj, Bool.eq_iff_iff]
      simp only [List.cons.injEq, Bool.and_eq_true, decide_eq_true_eq, beq_iff_eq]
      constructor
      · rintro ⟨h1, h2⟩
        rw [h1]
        exact ⟨⟨rfl, rfl⟩, h2⟩
      · rintro ⟨⟨h1, h2⟩, h3⟩
        refine ⟨?_, h3⟩
        cases ha : a[i]; cases hb : b[i]
        rw [ha, hb] at h1 h2
        simp at h1 h2
        simp [h1, h2]
    rw [hd]
    by_cases hc : (a[i].f0 == b[i].f0 && (a[i].f1 == b[i].f1)) = true
    · rw [hc, Bool.true_and]
      refine Ev.step (fun k => ?_) (ih (i + 1) (by omega) (by omega))
      simp only [api_Span__span_Valid_1.l0, e1, e2, w1, span_Valid_1.f]
      rw [if_pos (by omega), if_pos (by omega), if_pos (by omega), if_pos (by omega)]
      simp only [Option.bind_some]
      rw [if_pos hc]
    · have hc0 : (a[i].f0 == b[i].f0 && (a[i].f1 == b[i].f1)) = false := by simpa using hc
      rw [hc0, Bool.false_and]
      refine Ev.step (f := fun _ => some false) (fun k => ?_) (Ev.now _)
      simp only [api_Span__span_Valid_1.l0, e1, e2, w1, span_Valid_1.f]
      rw [if_pos (by omega), if_pos (by omega), if_pos (by omega), if_pos (by omega)]
      simp only [Option.bind_some]
      rw [if_neg hc]
theorem valid_spec (a : List S33) (ha : small a) : ∃ r, NF r ∧ (∀ n, mem r n = mem a n) ∧ Ev (fun k => span_Valid.f k a) (decide (r = a)) := by
  obtain ⟨r, h1, h2, h3, h4⟩ := normal_spec a ha
  refine ⟨r, h2, h3, ?_⟩
  have key : Ev (fun k => api_Span__span_Valid_1.f k r a) (decide (r = a)) := by
    by_cases hl : r.length = a.length
    · have := equal_loop r a hl (by unfold small at ha; omega) (r.length - 0) 0 (Nat.zero_le _) rfl
      rw [List.drop_zero, List.drop_zero] at this
      refine Ev.congr (fun k => ?_) this
      unfold api_Span__span_Valid_1.f
      rw [if_pos (by omega)]
      rfl
    · rw [decide_eq_false (fun h => hl (by rw [h]))]
      refine Ev.congr (f := fun _ => some false) (fun k => ?_) (Ev.now _)
      unfold api_Span__span_Valid_1.f
      rw [if_neg (by omega)]
  refine Ev.congr (f := fun k => (span_Normal.f k a).bind fun t => (api_Span__span_Valid_1.f k t a).bind some) (fun k => rfl) (Ev.bind (f := fun k t => (api_Span__span_Valid_1.f k t a).bind some) h1 (Ev.bind key (Ev.now _)))
theorem same_loop (a b : List S33) (h : a.length = b.length) (hl : a.length ≤ 100000000) : ∀ (d i : Nat), i ≤ a.length → a.length - i = d → Ev (fun k => wageofficeref04_Same.l0 k a b (i : Int)) (decide (a.drop i = b.drop i)) := by
  intro d
  induction d with
  | zero =>
    intro i h1 h2
    refine Ev.step (f := fun _ => some true) (fun k => ?_) ?_
    · simp only [wageofficeref04_Same.l0]
      rw [if_neg (by omega)]
    · rw [List.drop_eq_nil_of_le (by omega), List.drop_eq_nil_of_le (by omega)]
      exact Ev.now _
  | succ d ih =>
    intro i h1 h2
    have hi : i < a.length := by omega
    have hj : i < b.length := by omega
    have w1 : wrap64 ((i : Int) + 1) = ((i + 1 : Nat) : Int) := by unfold wrap64; omega
    have e1 := rd_S a i hi
    have e2 := rd_S b i hj
    have hd : decide (a.drop i = b.drop i) = (!(!(a[i].f0 == b[i].f0) || !(a[i].f1 == b[i].f1)) && decide (a.drop (i + 1) = b.drop (i + 1))) := by
      rw [List.drop_eq_getElem_cons hi, List.drop_eq_getElem_cons hj, Bool.eq_iff_iff]
      simp only [List.cons.injEq, Bool.and_eq_true, decide_eq_true_eq, Bool.not_or, Bool.not_not, beq_iff_eq]
      constructor
      · rintro ⟨h1, h2⟩
        rw [h1]
        exact ⟨⟨rfl, rfl⟩, h2⟩
      · rintro ⟨⟨h1, h2⟩, h3⟩
        refine ⟨?_, h3⟩
        cases ha : a[i]; cases hb : b[i]
        rw [ha, hb] at h1 h2
        simp at h1 h2
        simp [h1, h2]
    rw [hd]
    by_cases hc : (!(a[i].f0 == b[i].f0) || !(a[i].f1 == b[i].f1)) = true
    · rw [hc, Bool.not_true, Bool.false_and]
      refine Ev.step (f := fun _ => some false) (fun k => ?_) (Ev.now _)
      simp only [wageofficeref04_Same.l0, e1, e2, w1]
      rw [if_pos (by omega), if_pos (by omega), if_pos (by omega), if_pos hc]
    · have hc0 : (!(a[i].f0 == b[i].f0) || !(a[i].f1 == b[i].f1)) = false := by simpa using hc
      rw [hc0, Bool.not_false, Bool.true_and]
      refine Ev.step (fun k => ?_) (ih (i + 1) (by omega) (by omega))
      simp only [wageofficeref04_Same.l0, e1, e2, w1]
      rw [if_pos (by omega), if_pos (by omega), if_pos (by omega), if_neg hc]
theorem same_spec (a b : List S33) (hl : a.length ≤ 100000000) : Ev (fun k => wageofficeref04_Same.f k a b) (decide (a = b)) := by
  by_cases h : a.length = b.length
  · have := same_loop a b h hl (a.length - 0) 0 (Nat.zero_le _) rfl
    rw [List.drop_zero, List.drop_zero] at this
    refine Ev.congr (fun k => ?_) this
    unfold wageofficeref04_Same.f
    rw [if_pos (by omega)]
    rfl
  · rw [decide_eq_false (fun q => h (by rw [q]))]
    refine Ev.congr (f := fun _ => some false) (fun k => ?_) (Ev.now _)
    unfold wageofficeref04_Same.f
    rw [if_neg (by omega)]
end Go.Proofs.Ytgplnfhpeeifjaa.Q

namespace Go.Proofs.Ytgplnfhpeeifjaa.Q
open Go.RowKit Go.Proofs.YtgplnfhpeeifjaaW.PrintWords Go.Proofs.YtgplnfhpeeifjaaW.PrintLast Go.Proofs.YtgplnfhpeeifjaaW.PrintMore
set_option linter.unusedVariables false
set_option linter.unusedSimpArgs false
theorem ev_if {α : Type} {c : Prop} [Decidable c] {f g : Nat → Option α} {r : α} (hc : c) (h : Ev f r) : Ev (fun k => if c then f k else g k) r := Ev.congr (fun k => if_pos hc) h
theorem ev_else {α : Type} {c : Prop} [Decidable c] {f g : Nat → Option α} {r : α} (hc : ¬ c) (h : Ev g r) : Ev (fun k => if c then f k else g k) r := Ev.congr (fun k => if_neg hc) h
theorem ev_const {α β : Type} {o : Option α} {a : α} {f : Nat → α → Option β} {r : β} (h : o = some a) (k : Ev (fun n => f n a) r) : Ev (fun n => o.bind (f n)) r := Ev.congr (fun n => by rw [h]; rfl) k
theorem normal_is {a r : List S33} (ha : small a) (hr : NF r) (h : ∀ n, mem r n = mem a n) : Ev (fun k => span_Normal.f k a) r := by
  obtain ⟨r2, h1, h2, h3, _⟩ := normal_spec a ha
  obtain rfl := nf_unique r2 r h2 hr (fun n => by rw [h3, h])
  exact h1
theorem union_is {a b r : List S33} (ha : small a) (hb : small b) (hr : NF r) (h : ∀ n, mem r n = (mem a n || mem b n)) : Ev (fun k => span_Union.f k a b) r := by
  obtain ⟨r2, h1, h2, h3, _⟩ := union_spec a b ha hb
  obtain rfl := nf_unique r2 r h2 hr (fun n => by rw [h3, h])
  exact h1
theorem meet_is {a b r : List S33} (ha : small a) (hb : small b) (hr : NF r) (h : ∀ n, mem r n = (mem a n && mem b n)) : Ev (fun k => span_Meet.f k a b) r := by
  obtain ⟨r2, h1, h2, h3, _⟩ := meet_spec a b ha hb
  obtain rfl := nf_unique r2 r h2 hr (fun n => by rw [h3, h])
  exact h1
theorem minus_is {a b r : List S33} (ha : small a) (hb : small b) (hr : NF r) (h : ∀ n, mem r n = (mem a n && !mem b n)) : Ev (fun k => span_Minus.f k a b) r := by
  obtain ⟨r2, h1, h2, h3, _⟩ := minus_spec a b ha hb
  obtain rfl := nf_unique r2 r h2 hr (fun n => by rw [h3, h])
  exact h1
theorem valid_yes {a : List S33} (ha : small a) (h : NF a) : Ev (fun k => span_Valid.f k a) true := by
  obtain ⟨r, h1, h2, h3⟩ := valid_spec a ha
  obtain rfl := nf_unique r a h1 h h2
  rwa [decide_eq_true rfl] at h3
theorem valid_no {a : List S33} (ha : small a) (h : ¬ NF a) : Ev (fun k => span_Valid.f k a) false := by
  obtain ⟨r, h1, h2, h3⟩ := valid_spec a ha
  rwa [decide_eq_false (fun q : r = a => h (by rw [← q]; exact h1))] at h3
theorem list_is {l : List Int} {r : List S33} (k : Nat) (h : wageofficelaw04_list.f k l = some r) : Ev (fun k => wageofficelaw04_list.f k l) r := Ev.of (wageofficelaw04_list.mono l) h
theorem same_is {a b : List S33} (h : a = b) (hl : a.length ≤ 100000000) : Ev (fun k => wageofficeref04_Same.f k a b) true := by
  have := same_spec a b hl
  rwa [decide_eq_true h] at this
theorem small_lit {a : List S33} (h : a.length ≤ 10) : small a := by unfold small; omega
theorem nf_lit (a : List S33) (h : (decide (a.Pairwise (fun s t => s.f1 < t.f0)) && a.all isP) = true) : NF a := by
  rw [Bool.and_eq_true] at h
  exact ⟨of_decide_eq_true h.1, fun s hs => List.all_eq_true.1 h.2 s hs⟩
set_option maxHeartbeats 2000000 in
theorem head_true : Ev (fun k => wageofficelaw04_head.f k) true := by
  have m : ∀ (l : List S33) (n : Int), mem l n = l.any fun s => decide (s.f0 ≥ -1152921504606846976) && decide (s.f1 ≤ 1152921504606846976) && decide (s.f0 < s.f1) && decide (s.f0 ≤ n) && decide (n < s.f1) := fun _ _ => rfl
  unfold wageofficelaw04_head.f
  refine Ev.bind (list_is (r := [⟨1, 10⟩]) 20 (by kernel_rfl)) ?_
  refine Ev.bind (list_is (r := [⟨0, 2⟩, ⟨5, 7⟩]) 20 (by kernel_rfl)) ?_
  refine Ev.bind (list_is (r := [⟨5, 8⟩, ⟨1, 3⟩, ⟨3, 4⟩, ⟨9, 9⟩, ⟨7, 2⟩]) 20 (by kernel_rfl)) ?_
  refine Ev.bind (normal_is (r := [⟨1, 4⟩, ⟨5, 8⟩]) (small_lit (by decide)) (nf_lit _ (by decide)) (fun n => by rw [Bool.eq_iff_iff]; simp [m]; omega)) ?_
  refine Ev.bind (list_is (r := [⟨1, 4⟩, ⟨5, 8⟩]) 20 (by kernel_rfl)) ?_
  refine Ev.bind (same_is rfl (by decide)) ?_
  refine ev_if rfl ?_
  refine Ev.bind (meet_is (r := [⟨1, 2⟩, ⟨5, 7⟩]) (small_lit (by decide)) (small_lit (by decide)) (nf_lit _ (by decide)) (fun n => by rw [Bool.eq_iff_iff]; simp [m]; omega)) ?_
  refine Ev.bind (list_is (r := [⟨1, 2⟩, ⟨5, 7⟩]) 20 (by kernel_rfl)) ?_
  refine Ev.bind (same_is rfl (by decide)) ?_
  refine ev_if rfl ?_
  refine Ev.bind (minus_is (r := [⟨2, 5⟩, ⟨7, 10⟩]) (small_lit (by decide)) (small_lit (by decide)) (nf_lit _ (by decide)) (fun n => by rw [Bool.eq_iff_iff]; simp [m]; omega)) ?_
  refine Ev.bind (list_is (r := [⟨2, 5⟩, ⟨7, 10⟩]) 20 (by kernel_rfl)) ?_
  refine Ev.bind (same_is rfl (by decide)) ?_
  refine ev_if rfl ?_
  refine Ev.bind (union_is (r := [⟨0, 10⟩]) (small_lit (by decide)) (small_lit (by decide)) (nf_lit _ (by decide)) (fun n => by rw [Bool.eq_iff_iff]; simp [m]; omega)) ?_
  refine Ev.bind (list_is (r := [⟨0, 10⟩]) 20 (by kernel_rfl)) ?_
  refine Ev.bind (same_is rfl (by decide)) ?_
  refine ev_if rfl ?_
  refine Ev.bind (list_is (r := [⟨1, 5⟩, ⟨3, 8⟩]) 20 (by kernel_rfl)) ?_
  refine Ev.bind (size_spec _ [⟨1, 8⟩] (small_lit (by decide)) (nf_lit _ (by decide)) (fun n => by rw [Bool.eq_iff_iff]; simp [m]; omega)) ?_
  refine ev_if (by decide) ?_
  refine ev_const (has_spec _ 6 (small_lit (by decide))) ?_
  refine ev_if (by decide) ?_
  refine ev_const (has_spec _ 7 (small_lit (by decide))) ?_
  refine ev_else (by decide) ?_
  refine Ev.bind (valid_yes (small_lit (by decide)) (nf_lit _ (by decide))) ?_
  refine ev_if rfl ?_
  refine Ev.bind (list_is (r := [⟨1, 3⟩, ⟨3, 4⟩]) 20 (by kernel_rfl)) ?_
  refine Ev.bind (valid_no (small_lit (by decide)) (fun h => by have := (List.pairwise_cons.1 h.1).1 ⟨3, 4⟩ (by simp); simp at this)) ?_
  exact Ev.now _
theorem short_loop (ll : List (List S33)) (hl : ll.length ≤ 10) : ∀ (d i : Nat), i ≤ ll.length → ll.length - i = d → Ev (fun k => wageofficelaw04_short.l0 k ll (ll.length : Int) (i : Int)) ((ll.drop i).all fun l => decide (l.length ≤ 60)) := by
  intro d
  induction d with
  | zero =>
    intro i h1 h2
    refine Ev.step (f := fun _ => some true) (fun k => ?_) ?_
    · simp only [wageofficelaw04_short.l0]
      rw [if_neg (by omega)]
    · rw [List.drop_eq_nil_of_le (by omega)]
      exact Ev.now _
  | succ d ih =>
    intro i h1 h2
    have hi : i < ll.length := by omega
    have w1 : wrap64 ((i : Int) + 1) = ((i + 1 : Nat) : Int) := by unfold wrap64; omega
    have er : rd_L4 ll (i : Int) = ll[i] := by simp [rd_L4, List.getD_eq_getElem?_getD, List.getElem?_eq_getElem hi]
    rw [List.drop_eq_getElem_cons hi, List.all_cons]
    by_cases h : ll[i].length ≤ 60
    · rw [decide_eq_true h, Bool.true_and]
      refine Ev.step (fun k => ?_) (ih (i + 1) (by omega) (by omega))
      simp only [wageofficelaw04_short.l0, er, w1]
      rw [if_pos (by omega), if_pos (by omega), if_pos (by omega), if_neg (by omega)]
    · rw [decide_eq_false h, Bool.false_and]
      refine Ev.step (f := fun _ => some false) (fun k => ?_) (Ev.now _)
      simp only [wageofficelaw04_short.l0, er, w1]
      rw [if_pos (by omega), if_pos (by omega), if_pos (by omega), if_pos (by omega)]
theorem short_spec (ll : List (List S33)) (hl : ll.length ≤ 10) : Ev (fun k => wageofficelaw04_short.f k ll) (ll.all fun l => decide (l.length ≤ 60)) := by
  have := short_loop ll hl (ll.length - 0) 0 (Nat.zero_le _) rfl
  rw [List.drop_zero] at this
  exact this
theorem small_of {a : List S33} (h : a.length ≤ 60) : small a := by unfold small; omega
end Go.Proofs.Ytgplnfhpeeifjaa.Q

namespace Go.Proofs.YtgplnfhpeeifjaaW.PrintLast
open Go Go.RowKit Go.Proofs.YtgplnfhpeeifjaaW.PrintWords
section
variable {H : Type} {enc : TypeId × Value → H} {P : Program} {w : World} {spare : Nat → Bool} {held : Bool} {α : Type} {t e : TypeId}
def Opens (enc : TypeId × Value → H) (P : Program) (w : World) (spare : Nat → Bool) (held : Bool) (t : TypeId) (d : Kd α) (ok : α → Prop) : Prop :=
  ∀ (fuel : Nat) (cs : List Value) (x : DataW H × List MemPlace), DataW.trod enc P w 0 spare held fuel t cs = some x → ∃ y, d.K w y cs ∧ ok y
theorem Opens.int {k : IntKind} (ht : P.underlying t = some (.int k)) : Opens enc P w spare held t (Kd.int k) (fun x => (Lit.int k x).wf = true) := by
  intro fuel cs x h
  obtain ⟨n, rfl, _, hw⟩ := DataW.trod_int ht h
  exact ⟨n, rfl, hw⟩
theorem Opens.bool (ht : P.underlying t = some .bool) : Opens enc P w spare held t Kd.bool (fun _ => True) := by
  intro fuel cs x h
  obtain ⟨n, rfl, _⟩ := DataW.trod_bool ht h
  exact ⟨n, rfl, trivial⟩
theorem cut_ (cs : List Value) (o s : Nat) : cs.drop o = (cs.drop o).take s ++ cs.drop (o + s) := by
  rw [← List.drop_drop, List.take_append_drop]
theorem cut_last (cs : List Value) (o s : Nat) (h : cs.length = o + s) : cs.drop o = (cs.drop o).take s := (List.take_of_length_le (by rw [List.length_drop]; omega)).symm
theorem Opens.slice {d : Kd α} {ok : α → Prop} (ht : P.underlying t = some (.slice e)) (hsz : P.cellsOf e = d.sz) (hd : Opens enc P w spare held e d ok) :
    Opens enc P w spare held t (Kd.slice e d) (fun l => (∀ x ∈ l, ok x) ∧ l.length ≤ maxLen) := by
  intro fuel cs x hx
  rcases Go.Deep.open_slice ht hx with ⟨rfl, _⟩ | ⟨a, len, cap, m, n, D, Pl, rfl, hb, hl, hm, hmm, _, hel⟩
  · exact ⟨[], ⟨none, 0, rfl, Nat.le_refl _, Kd.C_nil d w⟩, by simp, by simp⟩
  · have hlm : len ≤ m := by rw [hmm]; split <;> omega
    have key : ∀ n', n' ≤ len → ∃ l : List α, l.length = n' ∧ ∀ i y, l[i]? = some y → (∃ c, c.length = d.sz ∧ d.K w y c ∧ ∀ j u, c[j]? = some u → w.cell? (a.add (i * d.sz + j)) = some u) ∧ ok y := by
      intro n'
      induction n' with
      | zero => exact fun _ => ⟨[], rfl, fun i y h => by simp at h⟩
      | succ n' ih =>
        intro hn
        obtain ⟨l, hll, hle⟩ := ih (by omega)
        obtain ⟨cs', h1, h2⟩ := hel n' (by omega)
        obtain ⟨y, hK, hok⟩ := hd _ _ _ h2
        obtain ⟨_, hcl, hcell⟩ := World.cells?_some h1
        refine ⟨l ++ [y], by rw [List.length_append, hll]; rfl, fun i z hz => ?_⟩
        rcases Nat.lt_or_ge i l.length with hi | hi
        · exact hle i z (by rwa [List.getElem?_append_left hi] at hz)
        · have hi2 : i = n' := by
            have := (List.getElem?_eq_some_iff.1 hz).1
            rw [List.length_append, List.length_singleton] at this
            omega
          subst hi2
          have hzy : y = z := by
            rw [List.getElem?_append_right (by omega), hll, Nat.sub_self] at hz
            simpa using hz
          subst hzy
          refine ⟨⟨cs', by rw [hcl, hsz], hK, fun j u hu => ?_⟩, hok⟩
          have hj : j < cs'.length := (List.getElem?_eq_some_iff.1 hu).1
          have := hcell j (by rw [← hcl]; exact hj)
          rw [Go.Deep.add_add, hsz] at this
          rw [this, hu]
    obtain ⟨l, hll, hle⟩ := key len (Nat.le_refl _)
    refine ⟨l, ⟨some a, cap, by rw [hll], by omega, rfl, by rw [hll]; have := hm; unfold maxLen at this; omega, fun _ => ⟨a, rfl, fun j p hp => (hle j p hp).1⟩⟩, fun y hy => ?_, by rw [hll]; omega⟩
    obtain ⟨i, hi⟩ := List.getElem?_of_mem hy
    exact (hle i y hi).2
theorem open_row {d : Kd α} {ok : α → Prop} {r : Reach} {b0 : Nat} {v : Value} {dd : DataW H} {p : List MemPlace} (ht : P.underlying t = some (.slice e)) (hsz : P.cellsOf e = d.sz) (hd : Opens enc P w spare held e d ok)
    (hv : Value.okWide P w r b0 t v) (h : DataW.Trod enc P w 0 spare held t v dd p) : ∃ (A : Option Addr) (l : List α) (c : Nat), v = .slice A l.length c ∧ l.length ≤ c ∧ d.C w A l.length l ∧ (∀ x ∈ l, ok x) ∧ l.length ≤ maxLen := by
  obtain ⟨a, len, cap, rfl⟩ := Go.WideShapes.okWide_slice ht hv
  obtain ⟨fuel, hf⟩ := h
  obtain ⟨l, ⟨A, c, hcs, hc, hC⟩, hok, hl⟩ := Opens.slice ht hsz hd _ _ _ hf
  simp only [Value.cells, List.cons.injEq, Value.slice.injEq, and_true] at hcs
  obtain ⟨rfl, rfl, rfl⟩ := hcs
  exact ⟨_, l, _, rfl, hc, hC, hok, hl⟩
end
end Go.Proofs.YtgplnfhpeeifjaaW.PrintLast

namespace Go.Proofs.Ytgplnfhpeeifjaa.Q
open Go Go.RowKit Go.Proofs.YtgplnfhpeeifjaaW.PrintWords Go.Proofs.YtgplnfhpeeifjaaW.PrintLast
def ok33 (x : S33) : Prop := ((Lit.int .i64 x.f0).wf = true) ∧ ((Lit.int .i64 x.f1).wf = true)
theorem opens33 {H : Type} {enc : TypeId × Value → H} {w : World} {spare : Nat → Bool} {held : Bool} : Opens enc Try.prog w spare held 33 k33 ok33 := by
  intro fuel cs x h
  obtain ⟨xs, n, _, _, hl, hlen, hf⟩ := DataW.trod_struct Try.underlying33 h
  have hl : cs.length = 2 := hl.trans (by kernel_rfl)
  have hlen : xs.length = 2 := hlen
  match xs, hlen with
  | [x0, x1], _ =>
    have c0 : Try.prog.cellsOf 3 = 1 := by kernel_rfl
    have h0 : DataW.trod enc Try.prog w 0 spare held n 3 ((cs.drop 0).take 1) = some x0 := by
      have q : DataW.trod enc Try.prog w 0 spare held n 3 ((cs.drop 0).take (Try.prog.cellsOf 3)) = some x0 := hf 0 _ rfl
      rw [c0] at q
      exact q
    obtain ⟨y0, K0, g0⟩ := (Opens.int Try.underlying3) _ _ _ h0
    have c1 : Try.prog.cellsOf 3 = 1 := by kernel_rfl
    have h1 : DataW.trod enc Try.prog w 0 spare held n 3 ((cs.drop 1).take 1) = some x1 := by
      have q : DataW.trod enc Try.prog w 0 spare held n 3 ((cs.drop 1).take (Try.prog.cellsOf 3)) = some x1 := hf 1 _ rfl
      rw [c1] at q
      exact q
    obtain ⟨y1, K1, g1⟩ := (Opens.int Try.underlying3) _ _ _ h1
    have el := cut_last cs 1 1 (by rw [hl])
    exact ⟨⟨y0, y1⟩, ⟨_, _, (cut_ cs 0 1), K0, (by rw [el]; exact K1)⟩, g0, g1⟩
theorem heap_33 : Kd.Heap k33 := k33_heap
end Go.Proofs.Ytgplnfhpeeifjaa.Q

namespace Go.Proofs.Ytgplnfhpeeifjaa.Q
open Go Go.RowKit Go.Proofs.YtgplnfhpeeifjaaW.PrintWords Go.Proofs.YtgplnfhpeeifjaaW.PrintLast Go.Proofs.YtgplnfhpeeifjaaW.PrintMore
set_option linter.unusedVariables false
set_option linter.unusedSimpArgs false
theorem mem_nil (n : Int) : mem [] n = false := rfl
theorem alg_j2 (a b c : List S33) (sa : small a) (sb : small b) (sc : small c) (la : a.length ≤ 60) (lb : b.length ≤ 60) (lc : c.length ≤ 60) : Ev (fun k => wageofficelaw04_SpanAlgebra.j2 k a b c true false) true := by
  refine Ev.step (fun k => by simp only [wageofficelaw04_SpanAlgebra.j2]; rw [if_neg (by simp)]) ?_
  refine ev_if trivial ?_
  obtain ⟨p, hp, np, mp, lp⟩ := minus_spec a b sa sb
  have sp : small p := by unfold small; omega
  refine Ev.bind hp ?_
  obtain ⟨q, hq, nq, mq, lq⟩ := minus_spec a p sa sp
  have sq : small q := by unfold small; omega
  refine Ev.bind hq ?_
  obtain ⟨r, hr, nr, mr, lr⟩ := meet_spec a b sa sb
  have sr : small r := by unfold small; omega
  refine Ev.bind hr ?_
  refine Ev.bind (same_is (nf_unique _ _ nq nr (fun n => by simp only [mq, mp, mr]; cases mem a n <;> cases mem b n <;> cases mem c n <;> rfl)) (by omega)) ?_
  refine ev_if rfl ?_
  obtain ⟨t, ht, nt, mt, lt⟩ := union_spec b c sb sc
  have st : small t := by unfold small; omega
  refine Ev.bind ht ?_
  obtain ⟨u, hu, nu, mu, lu⟩ := minus_spec a t sa st
  have su : small u := by unfold small; omega
  refine Ev.bind hu ?_
  obtain ⟨v, hv, nv, mv, lv⟩ := minus_spec a b sa sb
  have sv : small v := by unfold small; omega
  refine Ev.bind hv ?_
  obtain ⟨w, hw, nw, mw, lw⟩ := minus_spec a c sa sc
  have sw : small w := by unfold small; omega
  refine Ev.bind hw ?_
  obtain ⟨x, hx, nx, mx, lx⟩ := meet_spec v w sv sw
  have sx : small x := by unfold small; omega
  refine Ev.bind hx ?_
  refine Ev.bind (same_is (nf_unique _ _ nu nx (fun n => by simp only [mu, mt, mx, mv, mw]; cases mem a n <;> cases mem b n <;> cases mem c n <;> rfl)) (by omega)) ?_
  refine ev_if rfl ?_
  obtain ⟨y, hy, ny, my, ly⟩ := meet_spec b c sb sc
  have sy : small y := by unfold small; omega
  refine Ev.bind hy ?_
  obtain ⟨z, hz, nz, mz, lz⟩ := minus_spec a y sa sy
  have sz : small z := by unfold small; omega
  refine Ev.bind hz ?_
  obtain ⟨f, hf, nf, mf, lf⟩ := minus_spec a b sa sb
  have sf : small f := by unfold small; omega
  refine Ev.bind hf ?_
  obtain ⟨g, hg, ng, mg, lg⟩ := minus_spec a c sa sc
  have sg : small g := by unfold small; omega
  refine Ev.bind hg ?_
  obtain ⟨i, hi, ni, mi, li⟩ := union_spec f g sf sg
  have si : small i := by unfold small; omega
  refine Ev.bind hi ?_
  refine Ev.bind (same_is (nf_unique _ _ nz ni (fun n => by simp only [mz, my, mi, mf, mg]; cases mem a n <;> cases mem b n <;> cases mem c n <;> rfl)) (by omega)) ?_
  exact Ev.now _
theorem alg_j1 (a b c : List S33) (sa : small a) (sb : small b) (sc : small c) (la : a.length ≤ 60) (lb : b.length ≤ 60) (lc : c.length ≤ 60) : Ev (fun k => wageofficelaw04_SpanAlgebra.j1 k a b c true false) true := by
  refine Ev.step (fun k => by simp only [wageofficelaw04_SpanAlgebra.j1]; rw [if_neg (by simp)]) ?_
  obtain ⟨p, hp, np, mp, lp⟩ := union_spec b c sb sc
  have sp : small p := by unfold small; omega
  refine Ev.bind hp ?_
  obtain ⟨q, hq, nq, mq, lq⟩ := meet_spec a p sa sp
  have sq : small q := by unfold small; omega
  refine Ev.bind hq ?_
  obtain ⟨r, hr, nr, mr, lr⟩ := meet_spec a b sa sb
  have sr : small r := by unfold small; omega
  refine Ev.bind hr ?_
  obtain ⟨s, hs, ns, ms, ls⟩ := meet_spec a c sa sc
  have ss : small s := by unfold small; omega
  refine Ev.bind hs ?_
  obtain ⟨t, ht, nt, mt, lt⟩ := union_spec r s sr ss
  have st : small t := by unfold small; omega
  refine Ev.bind ht ?_
  refine Ev.bind (same_is (nf_unique _ _ nq nt (fun n => by simp only [mq, mp, mt, mr, ms]; cases mem a n <;> cases mem b n <;> cases mem c n <;> rfl)) (by omega)) ?_
  refine ev_if rfl ?_
  obtain ⟨u, hu, nu, mu, lu⟩ := meet_spec b c sb sc
  have su : small u := by unfold small; omega
  refine Ev.bind hu ?_
  obtain ⟨v, hv, nv, mv, lv⟩ := union_spec a u sa su
  have sv : small v := by unfold small; omega
  refine Ev.bind hv ?_
  obtain ⟨w, hw, nw, mw, lw⟩ := union_spec a b sa sb
  have sw : small w := by unfold small; omega
  refine Ev.bind hw ?_
  obtain ⟨x, hx, nx, mx, lx⟩ := union_spec a c sa sc
  have sx : small x := by unfold small; omega
  refine Ev.bind hx ?_
  obtain ⟨y, hy, ny, my, ly⟩ := meet_spec w x sw sx
  have sy : small y := by unfold small; omega
  refine Ev.bind hy ?_
  refine Ev.bind (same_is (nf_unique _ _ nv ny (fun n => by simp only [mv, mu, my, mw, mx]; cases mem a n <;> cases mem b n <;> cases mem c n <;> rfl)) (by omega)) ?_
  exact alg_j2 a b c sa sb sc la lb lc
theorem alg_j0 (a b c : List S33) (sa : small a) (sb : small b) (sc : small c) (la : a.length ≤ 60) (lb : b.length ≤ 60) (lc : c.length ≤ 60) : Ev (fun k => wageofficelaw04_SpanAlgebra.j0 k a b c true false) true := by
  refine Ev.step (fun k => by simp only [wageofficelaw04_SpanAlgebra.j0]; rw [if_neg (by simp)]) ?_
  obtain ⟨p, hp, np, mp, lp⟩ := union_spec a b sa sb
  have sp : small p := by unfold small; omega
  refine Ev.bind hp ?_
  obtain ⟨q, hq, nq, mq, lq⟩ := union_spec p c sp sc
  have sq : small q := by unfold small; omega
  refine Ev.bind hq ?_
  obtain ⟨r, hr, nr, mr, lr⟩ := union_spec b c sb sc
  have sr : small r := by unfold small; omega
  refine Ev.bind hr ?_
  obtain ⟨s, hs, ns, ms, ls⟩ := union_spec a r sa sr
  have ss : small s := by unfold small; omega
  refine Ev.bind hs ?_
  refine Ev.bind (same_is (nf_unique _ _ nq ns (fun n => by simp only [mq, mp, ms, mr]; cases mem a n <;> cases mem b n <;> cases mem c n <;> rfl)) (by omega)) ?_
  refine ev_if rfl ?_
  obtain ⟨t, ht, nt, mt, lt⟩ := meet_spec a b sa sb
  have st : small t := by unfold small; omega
  refine Ev.bind ht ?_
  obtain ⟨u, hu, nu, mu, lu⟩ := meet_spec t c st sc
  have su : small u := by unfold small; omega
  refine Ev.bind hu ?_
  obtain ⟨v, hv, nv, mv, lv⟩ := meet_spec b c sb sc
  have sv : small v := by unfold small; omega
  refine Ev.bind hv ?_
  obtain ⟨w, hw, nw, mw, lw⟩ := meet_spec a v sa sv
  have sw : small w := by unfold small; omega
  refine Ev.bind hw ?_
  refine Ev.bind (same_is (nf_unique _ _ nu nw (fun n => by simp only [mu, mt, mw, mv]; cases mem a n <;> cases mem b n <;> cases mem c n <;> rfl)) (by omega)) ?_
  exact alg_j1 a b c sa sb sc la lb lc
theorem SpanAlgebra_pure (a b c : List S33) (h0 : ∀ x ∈ a, ok33 x) (hm0 : a.length ≤ maxLen) (h1 : ∀ x ∈ b, ok33 x) (hm1 : b.length ≤ maxLen) (h2 : ∀ x ∈ c, ok33 x) (hm2 : c.length ≤ maxLen) : Ev (fun k => wageofficelaw04_SpanAlgebra.f k a b c) true := by
  unfold wageofficelaw04_SpanAlgebra.f
  refine Ev.bind head_true ?_
  refine Ev.bind (short_spec [a, b, c] (by simp)) ?_
  by_cases hs : ¬ ([a, b, c].all fun l => decide (l.length ≤ 60)) = true
  · exact ev_else hs (Ev.now _)
  have hs := Decidable.not_not.1 hs
  refine ev_if hs ?_
  simp only [List.all_cons, List.all_nil, Bool.and_true, Bool.and_eq_true, decide_eq_true_eq] at hs
  obtain ⟨la, lb, lc⟩ := hs
  have sa : small a := small_of la
  have sb : small b := small_of lb
  have sc : small c := small_of lc
  have se : small ([] : List S33) := small_of (Nat.zero_le _)
  obtain ⟨p, hp, np, mp, lp⟩ := union_spec a b sa sb
  have sp : small p := by unfold small; omega
  refine Ev.bind hp ?_
  obtain ⟨q, hq, nq, mq, lq⟩ := union_spec b a sb sa
  have sq : small q := by unfold small; omega
  refine Ev.bind hq ?_
  refine Ev.bind (same_is (nf_unique _ _ np nq (fun n => by simp only [mp, mq]; cases mem a n <;> cases mem b n <;> cases mem c n <;> rfl)) (by omega)) ?_
  refine ev_if rfl ?_
  obtain ⟨r, hr, nr, mr, lr⟩ := meet_spec a b sa sb
  have sr : small r := by unfold small; omega
  refine Ev.bind hr ?_
  obtain ⟨s, hs, ns, ms, ls⟩ := meet_spec b a sb sa
  have ss : small s := by unfold small; omega
  refine Ev.bind hs ?_
  refine Ev.bind (same_is (nf_unique _ _ nr ns (fun n => by simp only [mr, ms]; cases mem a n <;> cases mem b n <;> cases mem c n <;> rfl)) (by omega)) ?_
  refine ev_if rfl ?_
  obtain ⟨t, ht, nt, mt, lt⟩ := union_spec a a sa sa
  have st : small t := by unfold small; omega
  refine Ev.bind ht ?_
  obtain ⟨u, hu, nu, mu, lu⟩ := meet_spec a a sa sa
  have su : small u := by unfold small; omega
  refine Ev.bind hu ?_
  refine Ev.bind (same_is (nf_unique _ _ nt nu (fun n => by simp only [mt, mu]; cases mem a n <;> cases mem b n <;> cases mem c n <;> rfl)) (by omega)) ?_
  refine ev_if rfl ?_
  obtain ⟨v, hv, nv, mv, lv⟩ := union_spec a [] sa se
  simp only [List.length_nil] at lv
  have sv : small v := by unfold small; omega
  refine Ev.bind hv ?_
  obtain ⟨w, hw, nw, mw, lw⟩ := normal_spec a sa
  have sw : small w := by unfold small; omega
  refine Ev.bind hw ?_
  refine Ev.bind (same_is (nf_unique _ _ nv nw (fun n => by simp only [mv, mw, mem_nil]; cases mem a n <;> cases mem b n <;> cases mem c n <;> rfl)) (by omega)) ?_
  exact alg_j0 a b c sa sb sc la lb lc
end Go.Proofs.Ytgplnfhpeeifjaa.Q

namespace Go.Proofs.Ytgplnfhpeeifjaa.spanAlgebra
open Go.ChangeShapes Go.WideShapes Go.ChangeAt Go.RowKit
open Go.ChangeMaps (open_string shut_string)
open Go.Proofs.YtgplnfhpeeifjaaW.PrintWords Go.Proofs.YtgplnfhpeeifjaaW.PrintLast Go.Proofs.Ytgplnfhpeeifjaa.Q
set_option linter.unusedVariables false
theorem own : ownKnob Try.prog.godebug = none := by kernel_rfl
theorem laidOut : laidOutB Try.prog = true := by kernel_rfl
set_option maxRecDepth 100000 in
theorem lifted (os : Os) (started : os.Started) (H : Type) (enc : TypeId × Value → H) :
    ReturnsInHanded {} Try.checked os 6 .any (Rows.spanAlgebraSpec.pre6 enc Try.prog Try.f6 Rows.spanAlgebraRow.domain false) (Rows.spanAlgebraSpec.post enc Try.prog Try.f6 false true false false) := by
  refine returnsInHanded_of_change_sized (C := Try.checked) own started (by kernel_rfl) Try.func6
    (ChangeSpec.witness6 (enc := enc) (C := Try.checked) false ⟨#[], #[.slice none 0 0, .slice none 0 0, .slice none 0 0], []⟩ 8 (by kernel_rfl) (by kernel_rfl) (by kernel_rfl) (by kernel_rfl)) ?_
  intro W base args ds gs before hval0 hW hcnd hsz0 _
  have hval : ∀ (j : Nat) t v, Try.f6.params[j]? = some t → args[j]? = some v → Value.okWide Try.prog W .any base t v := hval0
  have hW' := hW
  obtain ⟨p, q, hA0, hV, rfl, hfz, hnd⟩ := hW
  have hA : DataW.TrodAll enc Try.prog W 0 (fun _ => true) true Try.f6.params.toList args.toList ds p := hA0
  rw [Try.params6] at hA hval
  obtain ⟨v0, vs0, d0, ds0, p0, q0, hargs, rfl, rfl, h0, r0⟩ := trodAll_cons hA
  obtain ⟨v1, vs1, d1, ds1, p1, q1, rfl, rfl, rfl, h1, r1⟩ := trodAll_cons r0
  obtain ⟨v2, vs2, d2, ds2, p2, q2, rfl, rfl, rfl, h2, r2⟩ := trodAll_cons r1
  obtain ⟨rfl, rfl, rfl⟩ := trodAll_nil r2
  obtain rfl : args = #[v0, v1, v2] := by cases args; simp_all
  obtain ⟨rfl, rfl⟩ := trodVars_none hV
  have k0 := h0
  have lt0 : ∀ x ∈ p0, x.block < W.heap.size := by obtain ⟨m, hm⟩ := k0; exact DataW.trod_lt m _ _ _ hm
  obtain ⟨A0, l0, c0, rfl, hc0, hr0, ok0, hm0⟩ := open_row Try.underlying22 (by kernel_rfl) opens33 (hval 0 22 v0 rfl rfl) h0
  have k1 := h1
  have lt1 : ∀ x ∈ p1, x.block < W.heap.size := by obtain ⟨m, hm⟩ := k1; exact DataW.trod_lt m _ _ _ hm
  obtain ⟨A1, l1, c1, rfl, hc1, hr1, ok1, hm1⟩ := open_row Try.underlying22 (by kernel_rfl) opens33 (hval 1 22 v1 rfl rfl) h1
  have k2 := h2
  have lt2 : ∀ x ∈ p2, x.block < W.heap.size := by obtain ⟨m, hm⟩ := k2; exact DataW.trod_lt m _ _ _ hm
  obtain ⟨A2, l2, c2, rfl, hc2, hr2, ok2, hm2⟩ := open_row Try.underlying22 (by kernel_rfl) opens33 (hval 2 22 v2 rfl rfl) h2
  clear hA0 hval0 hsz0
  obtain ⟨k, hP⟩ := (SpanAlgebra_pure l0 l1 l2 ok0 hm0 ok1 hm1 ok2 hm2).rounds
  refine (wageofficelaw04_SpanAlgebra.calls k (fun k => k < W.heap.size) A0 c0 l0 (fun k => k < W.heap.size) A1 c1 l1 (fun k => k < W.heap.size) A2 c2 l2 true W ⟨A0, c0, rfl, hc0, Kd.C_F heap_33 hr0⟩ ⟨A1, c1, rfl, hc1, Kd.C_F heap_33 hr1⟩ ⟨A2, c2, rfl, hc2, Kd.C_F heap_33 hr2⟩ hP).mono fun e W' ⟨he, bel0⟩ => ?_
  have bel : Below W.heap.size W W' := bel0
  subst he
  exact ⟨_, rfl, _, _, _, [], _, [], hW', trodAll_mk1 (shut_bool Try.underlying4 _), (trodAll_cons_mk (Below.trod laidOut (by kernel_rfl) (of_decide_eq_true (by kernel_rfl)) k0 bel lt0) (trodAll_cons_mk (Below.trod laidOut (by kernel_rfl) (of_decide_eq_true (by kernel_rfl)) k1 bel lt1) (trodAll_cons_mk (Below.trod laidOut (by kernel_rfl) (of_decide_eq_true (by kernel_rfl)) k2 bel lt2) trodAll_mk0))), rfl, bel.frame _, fun h => by cases h⟩
theorem over : Rows.spanAlgebraRow.holds Try.pinned (OpenSpec.ofChange Rows.spanAlgebraSpec) :=
  OpenClaim.holds_of_wide 6 Try.f6 rfl rfl rfl rfl rfl rfl rfl ⟨rfl, rfl, rfl, rfl, rfl⟩ rfl rfl rfl rfl rfl (by kernel_rfl) Try.func6 (by kernel_rfl)
    (of_decide_eq_true (by kernel_rfl)) (by unfold Func.isWrapper; first | (rw [if_pos (by decide +kernel)]; kernel_rfl) | (rw [if_neg (by decide +kernel)]; exact ⟨rfl, rfl⟩))
    (fun os started H enc _ => lifted os started H enc)
theorem proved : Rows.SpanAlgebraSaid := over
end Go.Proofs.Ytgplnfhpeeifjaa.spanAlgebra
namespace Go.Proofs.Ytgplnfhpeeifjaa
theorem spanAlgebra_holds : Rows.SpanAlgebraSaid := spanAlgebra.proved
end Go.Proofs.Ytgplnfhpeeifjaa
