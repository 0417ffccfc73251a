/- For any list of spans its normal form is valid, holds the same days at and beside every bound, does not change when the spans stand in another order, when one is repeated or when improper spans are added, and is the list itself exactly if the list is valid; conditions: the arguments are values that Go can hold, nothing else.
   The walk of the law's code and its plain law (merged by wip/tools/trim.py out of own texts and of texts that the kit's printer wrote). -/
import Derived.Test.YtgplnfhpeeifjaaCNorm6
import Derived.Deep.Slices
import Derived.ChangeArms
import Derived.WideShapes
import Derived.OpenShut
import Derived.KernelRfl
import Derived.Test.YtgplnfhpeeifjaaRows
import Derived.WalkKit
import Derived.ProofKit
import Derived.ShutString
import Derived.ChangeOld
import Derived.Below
import Derived.SizedLaws
namespace Go.Proofs.Ytgplnfhpeeifjaa.Q
open Go.RowKit Go.Proofs.YtgplnfhpeeifjaaW.PrintWords Go.Proofs.YtgplnfhpeeifjaaW.PrintLast Go.Proofs.YtgplnfhpeeifjaaW.PrintMore
set_option linter.unusedVariables false
set_option linter.unusedSimpArgs false
theorem ev_if {α : Type} {c : Prop} [Decidable c] {f g : Nat → Option α} {r : α} (hc : c) (h : Ev f r) : Ev (fun k => if c then f k else g k) r := Ev.congr (fun k => if_pos hc) h
theorem ev_else {α : Type} {c : Prop} [Decidable c] {f g : Nat → Option α} {r : α} (hc : ¬ c) (h : Ev g r) : Ev (fun k => if c then f k else g k) r := Ev.congr (fun k => if_neg hc) h
theorem ev_const {α β : Type} {o : Option α} {a : α} {f : Nat → α → Option β} {r : β} (h : o = some a) (k : Ev (fun n => f n a) r) : Ev (fun n => o.bind (f n)) r := Ev.congr (fun n => by rw [h]; rfl) k
theorem normal_is {a r : List S33} (ha : small a) (hr : NF r) (h : ∀ n, mem r n = mem a n) : Ev (fun k => span_Normal.f k a) r := by
  obtain ⟨r2, h1, h2, h3, _⟩ := normal_spec a ha
  obtain rfl := nf_unique r2 r h2 hr (fun n => by rw [h3, h])
  exact h1
theorem union_is {a b r : List S33} (ha : small a) (hb : small b) (hr : NF r) (h : ∀ n, mem r n = (mem a n || mem b n)) : Ev (fun k => span_Union.f k a b) r := by
  obtain ⟨r2, h1, h2, h3, _⟩ := union_spec a b ha hb
  obtain rfl := nf_unique r2 r h2 hr (fun n => by rw [h3, h])
  exact h1
theorem meet_is {a b r : List S33} (ha : small a) (hb : small b) (hr : NF r) (h : ∀ n, mem r n = (mem a n && mem b n)) : Ev (fun k => span_Meet.f k a b) r := by
  obtain ⟨r2, h1, h2, h3, _⟩ := meet_spec a b ha hb
  obtain rfl := nf_unique r2 r h2 hr (fun n => by rw [h3, h])
  exact h1
theorem minus_is {a b r : List S33} (ha : small a) (hb : small b) (hr : NF r) (h : ∀ n, mem r n = (mem a n && !mem b n)) : Ev (fun k => span_Minus.f k a b) r := by
  obtain ⟨r2, h1, h2, h3, _⟩ := minus_spec a b ha hb
  obtain rfl := nf_unique r2 r h2 hr (fun n => by rw [h3, h])
  exact h1
theorem valid_yes {a : List S33} (ha : small a) (h : NF a) : Ev (fun k => span_Valid.f k a) true := by
  obtain ⟨r, h1, h2, h3⟩ := valid_spec a ha
  obtain rfl := nf_unique r a h1 h h2
  rwa [decide_eq_true rfl] at h3
theorem valid_no {a : List S33} (ha : small a) (h : ¬ NF a) : Ev (fun k => span_Valid.f k a) false := by
  obtain ⟨r, h1, h2, h3⟩ := valid_spec a ha
  rwa [decide_eq_false (fun q : r = a => h (by rw [← q]; exact h1))] at h3
theorem list_is {l : List Int} {r : List S33} (k : Nat) (h : wageofficelaw04_list.f k l = some r) : Ev (fun k => wageofficelaw04_list.f k l) r := Ev.of (wageofficelaw04_list.mono l) h
theorem same_is {a b : List S33} (h : a = b) (hl : a.length ≤ 100000000) : Ev (fun k => wageofficeref04_Same.f k a b) true := by
  have := same_spec a b hl
  rwa [decide_eq_true h] at this
theorem small_lit {a : List S33} (h : a.length ≤ 10) : small a := by unfold small; omega
theorem nf_lit (a : List S33) (h : (decide (a.Pairwise (fun s t => s.f1 < t.f0)) && a.all isP) = true) : NF a := by
  rw [Bool.and_eq_true] at h
  exact ⟨of_decide_eq_true h.1, fun s hs => List.all_eq_true.1 h.2 s hs⟩
set_option maxHeartbeats 2000000 in
theorem head_true : Ev (fun k => wageofficelaw04_head.f k) true := by
  have m : ∀ (l : List S33) (n : Int), mem l n = l.any fun s => decide (s.f0 ≥ -1152921504606846976) && decide (s.f1 ≤ 1152921504606846976) && decide (s.f0 < s.f1) && decide (s.f0 ≤ n) && decide (n < s.f1) := fun _ _ => rfl
  unfold wageofficelaw04_head.f
  refine Ev.bind (list_is (r := [⟨1, 10⟩]) 20 (by kernel_rfl)) ?_
  refine Ev.bind (list_is (r := [⟨0, 2⟩, ⟨5, 7⟩]) 20 (by kernel_rfl)) ?_
  refine Ev.bind (list_is (r := [⟨5, 8⟩, ⟨1, 3⟩, ⟨3, 4⟩, ⟨9, 9⟩, ⟨7, 2⟩]) 20 (by kernel_rfl)) ?_
  refine Ev.bind (normal_is (r := [⟨1, 4⟩, ⟨5, 8⟩]) (small_lit (by decide)) (nf_lit _ (by decide)) (fun n => by rw [Bool.eq_iff_iff]; simp [m]; omega)) ?_
  refine Ev.bind (list_is (r := [⟨1, 4⟩, ⟨5, 8⟩]) 20 (by kernel_rfl)) ?_
  refine Ev.bind (same_is rfl (by decide)) ?_
  refine ev_if rfl ?_
  refine Ev.bind (meet_is (r := [⟨1, 2⟩, ⟨5, 7⟩]) (small_lit (by decide)) (small_lit (by decide)) (nf_lit _ (by decide)) (fun n => by rw [Bool.eq_iff_iff]; simp [m]; omega)) ?_
  refine Ev.bind (list_is (r := [⟨1, 2⟩, ⟨5, 7⟩]) 20 (by kernel_rfl)) ?_
  refine Ev.bind (same_is rfl (by decide)) ?_
  refine ev_if rfl ?_
  refine Ev.bind (minus_is (r := [⟨2, 5⟩, ⟨7, 10⟩]) (small_lit (by decide)) (small_lit (by decide)) (nf_lit _ (by decide)) (fun n => by rw [Bool.eq_iff_iff]; simp [m]; omega)) ?_
  refine Ev.bind (list_is (r := [⟨2, 5⟩, ⟨7, 10⟩]) 20 (by kernel_rfl)) ?_
  refine Ev.bind (same_is rfl (by decide)) ?_
  refine ev_if rfl ?_
  refine Ev.bind (union_is (r := [⟨0, 10⟩]) (small_lit (by decide)) (small_lit (by decide)) (nf_lit _ (by decide)) (fun n => by rw [Bool.eq_iff_iff]; simp [m]; omega)) ?_
  refine Ev.bind (list_is (r := [⟨0, 10⟩]) 20 (by kernel_rfl)) ?_
  refine Ev.bind (same_is rfl (by decide)) ?_
  refine ev_if rfl ?_
  refine Ev.bind (list_is (r := [⟨1, 5⟩, ⟨3, 8⟩]) 20 (by kernel_rfl)) ?_
  refine Ev.bind (size_spec _ [⟨1, 8⟩] (small_lit (by decide)) (nf_lit _ (by decide)) (fun n => by rw [Bool.eq_iff_iff]; simp [m]; omega)) ?_
  refine ev_if (by decide) ?_
  refine ev_const (has_spec _ 6 (small_lit (by decide))) ?_
  refine ev_if (by decide) ?_
  refine ev_const (has_spec _ 7 (small_lit (by decide))) ?_
  refine ev_else (by decide) ?_
  refine Ev.bind (valid_yes (small_lit (by decide)) (nf_lit _ (by decide))) ?_
  refine ev_if rfl ?_
  refine Ev.bind (list_is (r := [⟨1, 3⟩, ⟨3, 4⟩]) 20 (by kernel_rfl)) ?_
  refine Ev.bind (valid_no (small_lit (by decide)) (fun h => by have := (List.pairwise_cons.1 h.1).1 ⟨3, 4⟩ (by simp); simp at this)) ?_
  exact Ev.now _
theorem short_loop (ll : List (List S33)) (hl : ll.length ≤ 10) : ∀ (d i : Nat), i ≤ ll.length → ll.length - i = d → Ev (fun k => wageofficelaw04_short.l0 k ll (ll.length : Int) (i : Int)) ((ll.drop i).all fun l => decide (l.length ≤ 60)) := by
  intro d
  induction d with
  | zero =>
    intro i h1 h2
    refine Ev.step (f := fun _ => some true) (fun k => ?_) ?_
    · simp only [wageofficelaw04_short.l0]
      rw [if_neg (by omega)]
    · rw [List.drop_eq_nil_of_le (by omega)]
      exact Ev.now _
  | succ d ih =>
    intro i h1 h2
    have hi : i < ll.length := by omega
    have w1 : wrap64 ((i : Int) + 1) = ((i + 1 : Nat) : Int) := by unfold wrap64; omega
    have er : rd_L4 ll (i : Int) = ll[i] := by simp [rd_L4, List.getD_eq_getElem?_getD, List.getElem?_eq_getElem hi]
    rw [List.drop_eq_getElem_cons hi, List.all_cons]
    by_cases h : ll[i].length ≤ 60
    · rw [decide_eq_true h, Bool.true_and]
      refine Ev.step (fun k => ?_) (ih (i + 1) (by omega) (by omega))
      simp only [wageofficelaw04_short.l0, er, w1]
      rw [if_pos (by omega), if_pos (by omega), if_pos (by omega), if_neg (by omega)]
    · rw [decide_eq_false h, Bool.false_and]
      refine Ev.step (f := fun _ => some false) (fun k => ?_) (Ev.now _)
      simp only [wageofficelaw04_short.l0, er, w1]
      rw [if_pos (by omega), if_pos (by omega), if_pos (by omega), if_pos (by omega)]
theorem short_spec (ll : List (List S33)) (hl : ll.length ≤ 10) : Ev (fun k => wageofficelaw04_short.f k ll) (ll.all fun l => decide (l.length ≤ 60)) := by
  have := short_loop ll hl (ll.length - 0) 0 (Nat.zero_le _) rfl
  rw [List.drop_zero] at this
  exact this
theorem small_of {a : List S33} (h : a.length ≤ 60) : small a := by unfold small; omega
end Go.Proofs.Ytgplnfhpeeifjaa.Q

namespace Go.Proofs.YtgplnfhpeeifjaaW.PrintLast
open Go Go.RowKit Go.Proofs.YtgplnfhpeeifjaaW.PrintWords
section
variable {H : Type} {enc : TypeId × Value → H} {P : Program} {w : World} {spare : Nat → Bool} {held : Bool} {α : Type} {t e : TypeId}
def Opens (enc : TypeId × Value → H) (P : Program) (w : World) (spare : Nat → Bool) (held : Bool) (t : TypeId) (d : Kd α) (ok : α → Prop) : Prop :=
  ∀ (fuel : Nat) (cs : List Value) (x : DataW H × List MemPlace), DataW.trod enc P w 0 spare held fuel t cs = some x → ∃ y, d.K w y cs ∧ ok y
theorem Opens.int {k : IntKind} (ht : P.underlying t = some (.int k)) : Opens enc P w spare held t (Kd.int k) (fun x => (Lit.int k x).wf = true) := by
  intro fuel cs x h
  obtain ⟨n, rfl, _, hw⟩ := DataW.trod_int ht h
  exact ⟨n, rfl, hw⟩
theorem Opens.bool (ht : P.underlying t = some .bool) : Opens enc P w spare held t Kd.bool (fun _ => True) := by
  intro fuel cs x h
  obtain ⟨n, rfl, _⟩ := DataW.trod_bool ht h
  exact ⟨n, rfl, trivial⟩
theorem cut_ (cs : List Value) (o s : Nat) : cs.drop o = (cs.drop o).take s ++ cs.drop (o + s) := by
  rw [← List.drop_drop, List.take_append_drop]
theorem cut_last (cs : List Value) (o s : Nat) (h : cs.length = o + s) : cs.drop o = (cs.drop o).take s := (List.take_of_length_le (by rw [List.length_drop]; omega)).symm
theorem Opens.slice {d : Kd α} {ok : α → Prop} (ht : P.underlying t = some (.slice e)) (hsz : P.cellsOf e = d.sz) (hd : Opens enc P w spare held e d ok) :
    Opens enc P w spare held t (Kd.slice e d) (fun l => (∀ x ∈ l, ok x) ∧ l.length ≤ maxLen) := by
  intro fuel cs x hx
  rcases Go.Deep.open_slice ht hx with ⟨rfl, _⟩ | ⟨a, len, cap, m, n, D, Pl, rfl, hb, hl, hm, hmm, _, hel⟩
  · exact ⟨[], ⟨none, 0, rfl, Nat.le_refl _, Kd.C_nil d w⟩, by simp, by simp⟩
  · have hlm : len ≤ m := by rw [hmm]; split <;> omega
    have key : ∀ n', n' ≤ len → ∃ l : List α, l.length = n' ∧ ∀ i y, l[i]? = some y → (∃ c, c.length = d.sz ∧ d.K w y c ∧ ∀ j u, c[j]? = some u → w.cell? (a.add (i * d.sz + j)) = some u) ∧ ok y := by
      intro n'
      induction n' with
      | zero => exact fun _ => ⟨[], rfl, fun i y h => by simp at h⟩
      | succ n' ih =>
        intro hn
        obtain ⟨l, hll, hle⟩ := ih (by omega)
        obtain ⟨cs', h1, h2⟩ := hel n' (by omega)
        obtain ⟨y, hK, hok⟩ := hd _ _ _ h2
        obtain ⟨_, hcl, hcell⟩ := World.cells?_some h1
        refine ⟨l ++ [y], by rw [List.length_append, hll]; rfl, fun i z hz => ?_⟩
        rcases Nat.lt_or_ge i l.length with hi | hi
        · exact hle i z (by rwa [List.getElem?_append_left hi] at hz)
        · have hi2 : i = n' := by
            have := (List.getElem?_eq_some_iff.1 hz).1
            rw [List.length_append, List.length_singleton] at this
            omega
          subst hi2
          have hzy : y = z := by
            rw [List.getElem?_append_right (by omega), hll, Nat.sub_self] at hz
            simpa using hz
          subst hzy
          refine ⟨⟨cs', by rw [hcl, hsz], hK, fun j u hu => ?_⟩, hok⟩
          have hj : j < cs'.length := (List.getElem?_eq_some_iff.1 hu).1
          have := hcell j (by rw [← hcl]; exact hj)
          rw [Go.Deep.add_add, hsz] at this
          rw [this, hu]
    obtain ⟨l, hll, hle⟩ := key len (Nat.le_refl _)
    refine ⟨l, ⟨some a, cap, by rw [hll], by omega, rfl, by rw [hll]; have := hm; unfold maxLen at this; omega, fun _ => ⟨a, rfl, fun j p hp => (hle j p hp).1⟩⟩, fun y hy => ?_, by rw [hll]; omega⟩
    obtain ⟨i, hi⟩ := List.getElem?_of_mem hy
    exact (hle i y hi).2
theorem open_row {d : Kd α} {ok : α → Prop} {r : Reach} {b0 : Nat} {v : Value} {dd : DataW H} {p : List MemPlace} (ht : P.underlying t = some (.slice e)) (hsz : P.cellsOf e = d.sz) (hd : Opens enc P w spare held e d ok)
    (hv : Value.okWide P w r b0 t v) (h : DataW.Trod enc P w 0 spare held t v dd p) : ∃ (A : Option Addr) (l : List α) (c : Nat), v = .slice A l.length c ∧ l.length ≤ c ∧ d.C w A l.length l ∧ (∀ x ∈ l, ok x) ∧ l.length ≤ maxLen := by
  obtain ⟨a, len, cap, rfl⟩ := Go.WideShapes.okWide_slice ht hv
  obtain ⟨fuel, hf⟩ := h
  obtain ⟨l, ⟨A, c, hcs, hc, hC⟩, hok, hl⟩ := Opens.slice ht hsz hd _ _ _ hf
  simp only [Value.cells, List.cons.injEq, Value.slice.injEq, and_true] at hcs
  obtain ⟨rfl, rfl, rfl⟩ := hcs
  exact ⟨_, l, _, rfl, hc, hC, hok, hl⟩
end
end Go.Proofs.YtgplnfhpeeifjaaW.PrintLast

namespace Go.Proofs.Ytgplnfhpeeifjaa.Q
open Go Go.RowKit Go.Proofs.YtgplnfhpeeifjaaW.PrintWords Go.Proofs.YtgplnfhpeeifjaaW.PrintLast
def ok33 (x : S33) : Prop := ((Lit.int .i64 x.f0).wf = true) ∧ ((Lit.int .i64 x.f1).wf = true)
theorem opens33 {H : Type} {enc : TypeId × Value → H} {w : World} {spare : Nat → Bool} {held : Bool} : Opens enc Try.prog w spare held 33 k33 ok33 := by
  intro fuel cs x h
  obtain ⟨xs, n, _, _, hl, hlen, hf⟩ := DataW.trod_struct Try.underlying33 h
  have hl : cs.length = 2 := hl.trans (by kernel_rfl)
  have hlen : xs.length = 2 := hlen
  match xs, hlen with
  | [x0, x1], _ =>
    have c0 : Try.prog.cellsOf 3 = 1 := by kernel_rfl
    have h0 : DataW.trod enc Try.prog w 0 spare held n 3 ((cs.drop 0).take 1) = some x0 := by
      have q : DataW.trod enc Try.prog w 0 spare held n 3 ((cs.drop 0).take (Try.prog.cellsOf 3)) = some x0 := hf 0 _ rfl
      rw [c0] at q
      exact q
    obtain ⟨y0, K0, g0⟩ := (Opens.int Try.underlying3) _ _ _ h0
    have c1 : Try.prog.cellsOf 3 = 1 := by kernel_rfl
    have h1 : DataW.trod enc Try.prog w 0 spare held n 3 ((cs.drop 1).take 1) = some x1 := by
      have q : DataW.trod enc Try.prog w 0 spare held n 3 ((cs.drop 1).take (Try.prog.cellsOf 3)) = some x1 := hf 1 _ rfl
      rw [c1] at q
      exact q
    obtain ⟨y1, K1, g1⟩ := (Opens.int Try.underlying3) _ _ _ h1
    have el := cut_last cs 1 1 (by rw [hl])
    exact ⟨⟨y0, y1⟩, ⟨_, _, (cut_ cs 0 1), K0, (by rw [el]; exact K1)⟩, g0, g1⟩
theorem heap_33 : Kd.Heap k33 := k33_heap
end Go.Proofs.Ytgplnfhpeeifjaa.Q

namespace Go.Proofs.Ytgplnfhpeeifjaa.Q
open Go Go.RowKit Go.Proofs.YtgplnfhpeeifjaaW.PrintWords Go.Proofs.YtgplnfhpeeifjaaW.PrintLast Go.Proofs.YtgplnfhpeeifjaaW.PrintMore
set_option linter.unusedVariables false
set_option linter.unusedSimpArgs false
theorem mem_perm {a b : List S33} (h : a.Perm b) (n : Int) : mem a n = mem b n := by
  rw [Bool.eq_iff_iff]
  unfold mem
  rw [List.any_eq_true, List.any_eq_true]
  constructor
  · rintro ⟨s, hs, hi⟩; exact ⟨s, h.mem_iff.1 hs, hi⟩
  · rintro ⟨s, hs, hi⟩; exact ⟨s, h.mem_iff.2 hs, hi⟩
theorem shuf_loop (l : List S33) (hl : l.length ≤ 100) (b : Int) (b0 : 0 ≤ b ∧ b ≤ 255) : ∀ (d i : Nat) (out : List S33), i ≤ l.length → l.length - i = d → out.length = i → ∃ r, Ev (fun k => wageofficelaw04_shuffled.l0 k b out l (l.length : Int) (i : Int)) r ∧ r.Perm (out ++ l.drop i) := by
  intro d
  induction d with
  | zero =>
    intro i out h1 h2 h3
    refine ⟨out, ?_, ?_⟩
    · refine Ev.step (f := fun _ => some out) (fun k => ?_) (Ev.now _)
      simp only [wageofficelaw04_shuffled.l0]
      rw [if_neg (by omega)]
    · rw [List.drop_eq_nil_of_le (by omega), List.append_nil]
  | succ d ih =>
    intro i out h1 h2 h3
    have hi : i < l.length := by omega
    have w1 : wrap64 ((i : Int) + 1) = ((i + 1 : Nat) : Int) := by unfold wrap64; omega
    have w2 : wrap64 ((out.length : Int) + 1) = (out.length : Int) + 1 := by unfold wrap64; omega
    have w3 : wrap64 b = b := by unfold wrap64; omega
    have w4 : wrap64 (3 * (i : Int)) = 3 * (i : Int) := by unfold wrap64; omega
    have w5 : wrap64 (b + 3 * (i : Int)) = b + 3 * (i : Int) := by unfold wrap64; omega
    have t0 : 0 ≤ Int.tmod (b + 3 * (i : Int)) ((out.length : Int) + 1) := Int.tmod_nonneg _ (by omega)
    have t1 : Int.tmod (b + 3 * (i : Int)) ((out.length : Int) + 1) < (out.length : Int) + 1 := Int.tmod_lt_of_pos _ (by omega)
    have er := rd_S l i hi
    obtain ⟨q, hq⟩ := Int.eq_ofNat_of_zero_le t0
    have hql : q ≤ out.length := by rw [hq] at t1; omega
    have tl : (out.take q).length = q := List.length_take_of_le hql
    obtain ⟨r, hr, hp⟩ := ih (i + 1) (out.take q ++ ([l[i]] ++ out.drop q)) (by omega) (by omega) (by simp; omega)
    refine ⟨r, ?_, ?_⟩
    · refine Ev.step (g := fun k => wageofficelaw04_shuffled.l0 k b out l (l.length : Int) (i : Int)) (fun k => by simp only [wageofficelaw04_shuffled.l0, er, w1, w2, w3, w4, w5, hq]; rw [if_pos (by omega), if_pos (by omega), if_pos (by omega), if_neg (by omega), if_pos (by omega), if_pos (by omega)]) ?_
      refine ev_const rfl ?_
      refine ev_const rfl ?_
      refine ev_const rfl ?_
      simp only [Int.toNat_natCast]
      refine ev_if (by simp only [List.length_cons, List.length_nil, List.length_drop]; omega) ?_
      refine ev_const rfl ?_
      refine ev_if (by simp only [List.length_append, List.length_cons, List.length_nil, List.length_drop]; omega) ?_
      refine ev_if (by simp only [List.length_append, List.length_cons, List.length_nil, List.length_drop, tl]; omega) ?_
      exact hr
    · refine hp.trans ?_
      rw [List.drop_eq_getElem_cons hi]
      have e : out ++ l[i] :: l.drop (i + 1) = out.take q ++ (out.drop q ++ l[i] :: l.drop (i + 1)) := by rw [← List.append_assoc, List.take_append_drop]
      rw [e, List.append_assoc, List.append_assoc]
      refine List.Perm.append_left _ ?_
      rw [List.singleton_append]
      exact (List.perm_middle (a := l[i]) (l₁ := out.drop q) (l₂ := l.drop (i + 1))).symm
theorem shuf_spec (l : List S33) (hl : l.length ≤ 60) (b : Int) (b0 : 0 ≤ b ∧ b ≤ 255) : ∃ r, Ev (fun k => wageofficelaw04_shuffled.f k l b) r ∧ r.Perm l := by
  obtain ⟨r, h1, h2⟩ := shuf_loop l (by omega) b b0 (l.length - 0) 0 [] (Nat.zero_le _) rfl rfl
  exact ⟨r, h1, by simpa using h2⟩
theorem far_some (x y : Int) : ∃ b, wageofficelaw04_far.f x y = some b := by
  unfold wageofficelaw04_far.f
  repeat' split
  all_goals exact ⟨_, rfl⟩
theorem mem_bad (s : S33) (h : isP s = false) (n : Int) : mem [s] n = false := by
  rw [mem_cons, show mem [] n = false from rfl, Bool.or_false]
  cases q : inS n s
  · rfl
  · have := ((inS_iff n s).1 q).1
    rw [h] at this
    cases this
theorem norm_end (l n : List S33) (sl : small l) (hl : l.length ≤ 60) (nn : NF n) (hn : ∀ x, mem n x = mem l x) (hnl : n.length ≤ 200) (b c : Int) (b0 : 0 ≤ b ∧ b ≤ 255) (c0 : 0 ≤ c ∧ c ≤ 255) (y : List S33) (j : Int) (hj : ¬ j < (y.length : Int)) :
    Ev (fun k => wageofficelaw04_SpanNormal.l1 k l b c true n y (y.length : Int) j) true := by
  obtain ⟨r, hr, hp⟩ := shuf_spec l hl b b0
  have hrl := hp.length_eq
  refine Ev.step (g := fun k => wageofficelaw04_SpanNormal.l1 k l b c true n y (y.length : Int) j) (fun k => by simp only [wageofficelaw04_SpanNormal.l1]; rw [if_neg hj]) ?_
  refine Ev.bind hr ?_
  by_cases z : (l.length : Int) > 0
  · refine ev_if z ?_
    have w : wrap64 c = c := by unfold wrap64; omega
    have t0 : 0 ≤ Int.tmod c (l.length : Int) := Int.tmod_nonneg _ c0.1
    have t1 : Int.tmod c (l.length : Int) < (l.length : Int) := Int.tmod_lt_of_pos _ z
    rw [w]
    obtain ⟨i, hi⟩ := Int.eq_ofNat_of_zero_le t0
    rw [hi] at t0 t1 ⊢
    have hil : i < l.length := by omega
    rw [rd_S l i hil]
    refine ev_else (by omega) ?_
    refine ev_if t0 ?_
    refine ev_if t1 ?_
    refine ev_const rfl ?_
    refine ev_if (by simp only [List.length_cons, List.length_nil]; omega) ?_
    refine ev_if trivial ?_
    refine Ev.bind (normal_is (r := n) (by unfold small; simp only [List.length_append, List.length_cons, List.length_nil]; omega) nn (fun x => ?_)) ?_
    · rw [hn, mem_append, mem_perm hp, mem_cons]
      rw [show ([⟨5, 5⟩, ⟨2305843009213693951, 3⟩] : List S33) = [⟨5, 5⟩] ++ [⟨2305843009213693951, 3⟩] from rfl, mem_append, mem_bad ⟨5, 5⟩ (by decide), mem_bad ⟨2305843009213693951, 3⟩ (by decide), Bool.or_false, Bool.or_false]
      cases q : inS x ⟨l[i].f0, l[i].f1⟩
      · rw [Bool.or_false]
      · have : mem l x = true := List.any_eq_true.2 ⟨l[i], List.getElem_mem hil, q⟩
        rw [this]
        rfl
    · refine Ev.bind (same_is rfl (by omega)) ?_
      exact Ev.now _
  · refine ev_else z ?_
    refine ev_if trivial ?_
    refine Ev.bind (normal_is (r := n) (small_of (by omega)) nn (fun x => by rw [hn, mem_perm hp])) ?_
    refine Ev.bind (same_is rfl (by omega)) ?_
    exact Ev.now _
theorem norm_d (l n : List S33) (sl : small l) (sn : small n) (hn : ∀ x, mem n x = mem l x) (b c : Int) (y : List S33) (j x0 x1 : Int) (h : Ev (fun k => wageofficelaw04_SpanNormal.l1 k l b c true n y (y.length : Int) (wrap64 (j + 1))) true) :
    ∀ (m : Nat), m ≤ 3 → Ev (fun k => wageofficelaw04_SpanNormal.l2 k l b c true n (2 - (m : Int)) y (y.length : Int) j x0 x1) true := by
  intro m
  induction m with
  | zero =>
    intro _
    refine Ev.step (fun k => ?_) h
    simp only [wageofficelaw04_SpanNormal.l2]
    rw [if_neg (by omega)]
  | succ m ih =>
    intro hm
    have ih := ih (by omega)
    have w : wrap64 ((2 - ((m + 1 : Nat) : Int)) + 1) = 2 - (m : Int) := by unfold wrap64; omega
    refine Ev.step (g := fun k => wageofficelaw04_SpanNormal.l2 k l b c true n (2 - ((m + 1 : Nat) : Int)) y (y.length : Int) j x0 x1) (fun k => by simp only [wageofficelaw04_SpanNormal.l2, w]; rw [if_pos (by omega)]) ?_
    obtain ⟨f, hf⟩ := far_some x0 x1
    refine ev_const hf ?_
    cases f with
    | false => exact ev_else (by simp) ih
    | true =>
      refine ev_if rfl ?_
      refine ev_const (has_spec l _ sl) ?_
      refine ev_const (has_spec n _ sn) ?_
      refine ev_else (by rw [hn]; simp) ?_
      refine ev_const (has_spec l _ sl) ?_
      refine ev_const (has_spec n _ sn) ?_
      exact ev_else (by rw [hn]; simp) ih
theorem norm_l1 (l n : List S33) (sl : small l) (sn : small n) (hl : l.length ≤ 60) (nn : NF n) (hn : ∀ x, mem n x = mem l x) (hnl : n.length ≤ 200) (b c : Int) (b0 : 0 ≤ b ∧ b ≤ 255) (c0 : 0 ≤ c ∧ c ≤ 255) (y : List S33) (hy : y.length ≤ 300) : ∀ (d i : Nat), i ≤ y.length → y.length - i = d → Ev (fun k => wageofficelaw04_SpanNormal.l1 k l b c true n y (y.length : Int) (i : Int)) true := by
  intro d
  induction d with
  | zero =>
    intro i h1 h2
    exact norm_end l n sl hl nn hn hnl b c b0 c0 y _ (by omega)
  | succ d ih =>
    intro i h1 h2
    have hi : i < y.length := by omega
    have w1 : wrap64 ((i : Int) + 1) = ((i + 1 : Nat) : Int) := by unfold wrap64; omega
    have := norm_d l n sl sn hn b c y (i : Int) (rd_T33 y (i : Int)).f0 (rd_T33 y (i : Int)).f1 (by rw [w1]; exact ih (i + 1) (by omega) (by omega)) 3 (Nat.le_refl _)
    refine Ev.step (fun k => ?_) this
    simp only [wageofficelaw04_SpanNormal.l1]
    rw [if_pos (by omega), if_pos (by omega), if_pos (by omega)]
    rfl
theorem norm_l0 (l n : List S33) (sl : small l) (sn : small n) (hl : l.length ≤ 60) (nn : NF n) (hn : ∀ x, mem n x = mem l x) (hnl : n.length ≤ 200) (b c : Int) (b0 : 0 ≤ b ∧ b ≤ 255) (c0 : 0 ≤ c ∧ c ≤ 255) : ∀ (d i : Nat), i ≤ n.length → n.length - i = d → Ev (fun k => wageofficelaw04_SpanNormal.l0 k l b c true n n (n.length : Int) (i : Int)) true := by
  intro d
  induction d with
  | zero =>
    intro i h1 h2
    refine Ev.step (g := fun k => wageofficelaw04_SpanNormal.l0 k l b c true n n (n.length : Int) (i : Int)) (fun k => by simp only [wageofficelaw04_SpanNormal.l0]; rw [if_neg (by omega)]) ?_
    refine ev_const rfl ?_
    refine ev_if (by simp only [List.length_nil]; omega) ?_
    refine ev_const rfl ?_
    simp only [List.nil_append]
    refine ev_if (by omega) ?_
    refine ev_const rfl ?_
    exact norm_l1 l n sl sn hl nn hn hnl b c b0 c0 (l ++ n) (by simp; omega) _ 0 (Nat.zero_le _) rfl
  | succ d ih =>
    intro i h1 h2
    have hi : i < n.length := by omega
    have w1 : wrap64 ((i : Int) + 1) = ((i + 1 : Nat) : Int) := by unfold wrap64; omega
    have p := (isP_iff _).1 (nn.2 n[i] (List.getElem_mem hi))
    have er := rd_S n i hi
    refine Ev.step (fun k => ?_) (ih (i + 1) (by omega) (by omega))
    by_cases z : i = 0
    · subst z
      simp only [wageofficelaw04_SpanNormal.l0, er, w1]
      rw [if_pos (by omega), if_pos (by omega), if_pos (by omega), if_neg (by omega), if_neg (by omega)]
    · have w2 : wrap64 ((i : Int) - 1) = ((i - 1 : Nat) : Int) := by unfold wrap64; omega
      have hj : i - 1 < n.length := by omega
      have e2 := rd_S n (i - 1) hj
      have pw := (List.pairwise_iff_getElem.1 nn.1) (i - 1) i hj hi (by omega)
      simp only [wageofficelaw04_SpanNormal.l0, er, w1, w2, e2]
      rw [if_pos (by omega), if_pos (by omega), if_pos (by omega), if_neg (by omega), if_pos (by omega), if_pos (by omega), if_pos (by omega), if_neg (by omega)]
theorem SpanNormal_pure (l0 : List S33) (a1 a2 : Int) (h0 : ∀ x ∈ l0, ok33 x) (hm0 : l0.length ≤ maxLen) (h1 : (Lit.int .u8 a1).wf = true) (h2 : (Lit.int .u8 a2).wf = true) :
    Ev (fun k => wageofficelaw04_SpanNormal.f k l0 a1 a2) true := by
  have b1 : 0 ≤ a1 ∧ a1 ≤ 255 := by simpa [Lit.wf, IntKind.min, IntKind.max, IntKind.signed, IntKind.bits] using h1
  have b2 : 0 ≤ a2 ∧ a2 ≤ 255 := by simpa [Lit.wf, IntKind.min, IntKind.max, IntKind.signed, IntKind.bits] using h2
  unfold wageofficelaw04_SpanNormal.f
  refine Ev.bind head_true ?_
  refine Ev.bind (short_spec [l0] (by simp)) ?_
  by_cases hs : ([l0].all fun l => decide (l.length ≤ 60)) = true
  · refine ev_if hs ?_
    simp only [List.all_cons, List.all_nil, Bool.and_true, decide_eq_true_eq] at hs
    have s0 : small l0 := small_of hs
    obtain ⟨n, hn, nn, mn, ln⟩ := normal_spec l0 s0
    have sn : small n := by unfold small; omega
    refine Ev.bind hn ?_
    refine Ev.bind (valid_yes sn nn) ?_
    refine ev_if rfl ?_
    refine Ev.bind (normal_is sn nn (fun _ => rfl)) ?_
    refine Ev.bind (same_is rfl (by omega)) ?_
    refine ev_if rfl ?_
    obtain ⟨r, nr, mr, hv⟩ := valid_spec l0 s0
    have e : r = n := nf_unique r n nr nn (fun x => by rw [mr, mn])
    rw [e] at hv
    refine Ev.bind hv ?_
    refine Ev.bind (same_spec n l0 (by omega)) ?_
    rw [show (decide (n = l0) != decide (n = l0)) = false from by simp]
    refine Ev.step (fun k => by simp only [wageofficelaw04_SpanNormal.j0]; rw [if_neg (by simp)]) ?_
    exact norm_l0 l0 n s0 sn hs nn mn (by omega) a1 a2 b1 b2 _ 0 (Nat.zero_le _) rfl
  · exact ev_else hs (Ev.now _)
end Go.Proofs.Ytgplnfhpeeifjaa.Q

namespace Go.Proofs.Ytgplnfhpeeifjaa.spanNormal
open Go.ChangeShapes Go.WideShapes Go.ChangeAt Go.RowKit
open Go.ChangeMaps (open_string shut_string)
open Go.Proofs.YtgplnfhpeeifjaaW.PrintWords Go.Proofs.YtgplnfhpeeifjaaW.PrintLast Go.Proofs.Ytgplnfhpeeifjaa.Q
set_option linter.unusedVariables false
theorem own : ownKnob Try.prog.godebug = none := by kernel_rfl
theorem laidOut : laidOutB Try.prog = true := by kernel_rfl
set_option maxRecDepth 100000 in
theorem lifted (os : Os) (started : os.Started) (H : Type) (enc : TypeId × Value → H) :
    ReturnsInHanded {} Try.checked os 4 .any (Rows.spanNormalSpec.pre6 enc Try.prog Try.f4 Rows.spanNormalRow.domain false) (Rows.spanNormalSpec.post enc Try.prog Try.f4 false true false false) := by
  refine returnsInHanded_of_change_sized (C := Try.checked) own started (by kernel_rfl) Try.func4
    (ChangeSpec.witness6 (enc := enc) (C := Try.checked) false ⟨#[], #[.slice none 0 0, .int .u8 0, .int .u8 0], []⟩ 8 (by kernel_rfl) (by kernel_rfl) (by kernel_rfl) (by kernel_rfl)) ?_
  intro W base args ds gs before hval0 hW hcnd hsz0 _
  have hval : ∀ (j : Nat) t v, Try.f4.params[j]? = some t → args[j]? = some v → Value.okWide Try.prog W .any base t v := hval0
  have hW' := hW
  obtain ⟨p, q, hA0, hV, rfl, hfz, hnd⟩ := hW
  have hA : DataW.TrodAll enc Try.prog W 0 (fun _ => true) true Try.f4.params.toList args.toList ds p := hA0
  rw [Try.params4] at hA hval
  obtain ⟨v0, vs0, d0, ds0, p0, q0, hargs, rfl, rfl, h0, r0⟩ := trodAll_cons hA
  obtain ⟨v1, vs1, d1, ds1, p1, q1, rfl, rfl, rfl, h1, r1⟩ := trodAll_cons r0
  obtain ⟨v2, vs2, d2, ds2, p2, q2, rfl, rfl, rfl, h2, r2⟩ := trodAll_cons r1
  obtain ⟨rfl, rfl, rfl⟩ := trodAll_nil r2
  obtain rfl : args = #[v0, v1, v2] := by cases args; simp_all
  obtain ⟨rfl, rfl⟩ := trodVars_none hV
  have k0 := h0
  have lt0 : ∀ x ∈ p0, x.block < W.heap.size := by obtain ⟨m, hm⟩ := k0; exact DataW.trod_lt m _ _ _ hm
  obtain ⟨A0, l0, c0, rfl, hc0, hr0, ok0, hm0⟩ := open_row Try.underlying22 (by kernel_rfl) opens33 (hval 0 22 v0 rfl rfl) h0
  obtain ⟨a1, rfl, rfl, rfl, ok1⟩ := open_int Try.underlying5 (hval 1 5 v1 rfl rfl) h1
  obtain ⟨a2, rfl, rfl, rfl, ok2⟩ := open_int Try.underlying5 (hval 2 5 v2 rfl rfl) h2
  clear hA0 hval0 hsz0
  obtain ⟨k, hP⟩ := (SpanNormal_pure l0 a1 a2 ok0 hm0 ok1 ok2).rounds
  refine (wageofficelaw04_SpanNormal.calls k (fun k => k < W.heap.size) A0 c0 l0 a1 a2 true W ⟨A0, c0, rfl, hc0, Kd.C_F heap_33 hr0⟩ hP).mono fun e W' ⟨he, bel0⟩ => ?_
  have bel : Below W.heap.size W W' := bel0
  subst he
  exact ⟨_, rfl, _, _, _, [], _, [], hW', trodAll_mk1 (shut_bool Try.underlying4 _), (trodAll_cons_mk (Below.trod laidOut (by kernel_rfl) (of_decide_eq_true (by kernel_rfl)) k0 bel lt0) (trodAll_cons_mk (shut_int Try.underlying5 ok1) (trodAll_cons_mk (shut_int Try.underlying5 ok2) trodAll_mk0))), rfl, bel.frame _, fun h => by cases h⟩
theorem over : Rows.spanNormalRow.holds Try.pinned (OpenSpec.ofChange Rows.spanNormalSpec) :=
  OpenClaim.holds_of_wide 4 Try.f4 rfl rfl rfl rfl rfl rfl rfl ⟨rfl, rfl, rfl, rfl, rfl⟩ rfl rfl rfl rfl rfl (by kernel_rfl) Try.func4 (by kernel_rfl)
    (of_decide_eq_true (by kernel_rfl)) (by unfold Func.isWrapper; first | (rw [if_pos (by decide +kernel)]; kernel_rfl) | (rw [if_neg (by decide +kernel)]; exact ⟨rfl, rfl⟩))
    (fun os started H enc _ => lifted os started H enc)
theorem proved : Rows.SpanNormalSaid := over
end Go.Proofs.Ytgplnfhpeeifjaa.spanNormal
namespace Go.Proofs.Ytgplnfhpeeifjaa
theorem spanNormal_holds : Rows.SpanNormalSaid := spanNormal.proved
end Go.Proofs.Ytgplnfhpeeifjaa
