/- For every zone, duty, window and instant within the duty, the minutes of the two parts by local days and in the window add up to those of the duty, and there is no rest between the parts; conditions: none beyond the reading of the inputs.
   The walk of the law's code and its plain law (merged by wip/tools/trim.py out of own texts and of texts that the kit's printer wrote). -/
import Derived.Test.YtnpceipoakclbaaCPts6
import Derived.Test.YtnpceipoakclbaaRows
import Derived.WalkKit
import Derived.ProofKit
import Derived.OpenShut
import Derived.ShutString
import Derived.ChangeOld
import Derived.Below
import Derived.SizedLaws
namespace Go.Proofs.Ytnpceipoakclbaa.Q
open Go.RowKit Go.Proofs.YtnpceipoakclbaaW.PrintWords Go.Proofs.YtnpceipoakclbaaW.PrintLast Go.Proofs.YtnpceipoakclbaaW.PrintMore
set_option linter.unusedVariables false
set_option linter.unusedSimpArgs false
theorem one_off {base : Int} {l : List Chg} (hv : zvalid base l = true) (F T : Int) (h : T - F ≤ 2880) : ∃ c o1 o2 : Int, F < c ∧ -60 ≤ o2 - o1 ∧ o2 - o1 ≤ 60 ∧ ∀ t, F ≤ t → t < T → (t < c → loc base l t = t + o1) ∧ (c ≤ t → loc base l t = t + o2) := by
  obtain ⟨c1, c2, o1, o2, o3, h1, h2, h3, h4, _, _, h5⟩ := three_offsets F T (by omega) (valid_parts hv).2.2.2
  refine ⟨c1, o1, o2, h2, h3, h4, fun t t1 t2 => ?_⟩
  have := h5 t t1 t2
  unfold loc
  rw [this]
  constructor
  · intro h
    rw [if_pos h]
  · intro h
    rw [if_neg (by omega), if_pos (by omega)]
theorem splC_has {base : Int} {l : List Chg} {fr tt x : Int} (h1 : fr ≤ x) (h2 : x < tt) : ∃ p ∈ splC base l fr tt, p.f0 = loc base l x / 1440 := by
  have hh := (mdays_has (fun t => loc base l t / 1440) (loc base l x / 1440) (tt - fr).toNat fr []).2 (.inr ⟨x, h1, by omega, rfl⟩)
  exact ⟨_, mem_look hh, rfl⟩
theorem splC_three {base : Int} {l : List Chg} (hv : zvalid base l = true) {fr tt : Int} (h1 : fr < tt) (h2 : tt - fr ≤ 1440) : 1 ≤ (splC base l fr tt).length ∧ (splC base l fr tt).length ≤ 3 := by
  constructor
  · obtain ⟨p, hp, _⟩ := splC_has (base := base) (l := l) (x := fr) (Int.le_refl _) h1
    exact List.length_pos_of_mem hp
  · obtain ⟨c, o1, o2, g1, g2, g3, g4⟩ := one_off hv fr tt (by omega)
    have hA : ∃ A : Int, ∀ x, fr ≤ x → x < tt → A ≤ loc base l x ∧ loc base l x ≤ A + 1499 := by
      by_cases hd : o1 ≤ o2
      · refine ⟨fr + o1, fun x x1 x2 => ?_⟩
        have := g4 x x1 x2
        by_cases q : x < c
        · have := this.1 q; omega
        · have := this.2 (by omega); omega
      · refine ⟨fr + o1 - 59, fun x x1 x2 => ?_⟩
        have := g4 x x1 x2
        by_cases q : x < c
        · have := this.1 q; omega
        · have := this.2 (by omega); omega
    obtain ⟨A, hA⟩ := hA
    have := inc_len (lo := A / 1440) (hi := A / 1440 + 3) (splC_inc base l fr tt) (fun p hp => by
      obtain ⟨_, _, x, x1, x2, x3⟩ := splC_mem hp
      have := hA x x1 x2
      omega)
    omega
theorem tot_bd : ∀ (L : List Por) (B : Int), (∀ p ∈ L, 0 ≤ p.f1 ∧ p.f1 ≤ B) → 0 ≤ tot L ∧ tot L ≤ L.length * B := by
  intro L B
  induction L with
  | nil => intro _; simp [tot]
  | cons p ps ih =>
    intro h
    have := ih (fun q hq => h q (by simp [hq]))
    have hp := h p (by simp)
    rw [tot_cons]
    simp only [List.length_cons, Int.natCast_add, Int.add_mul]
    omega
theorem sum17_f (L : List Por) (hl : L.length ≤ 100) (hb : ∀ p ∈ L, 0 ≤ p.f1 ∧ p.f1 ≤ 1000000) {k : Nat} (hk : L.length < k) : wageofficelaw17_sum.f k L = some (tot L) := by
  unfold wageofficelaw17_sum.f
  have key : ∀ (d i : Nat) (n : Int), L.length - i = d → i ≤ L.length → 0 ≤ n → n ≤ i * 1000000 → ∀ k, d < k → wageofficelaw17_sum.l0 k L n (i : Int) = some (n + tot (L.drop i)) := by
    intro d
    induction d with
    | zero =>
      intro i n h1 h2 h3 h4 k hk
      obtain ⟨k, rfl⟩ : ∃ m, k = m + 1 := ⟨k - 1, by omega⟩
      simp only [wageofficelaw17_sum.l0]
      rw [if_neg (by omega), List.drop_eq_nil_of_le (by omega)]
      simp [tot]
    | succ d ih =>
      intro i n h1 h2 h3 h4 k hk
      obtain ⟨k, rfl⟩ : ∃ m, k = m + 1 := ⟨k - 1, by omega⟩
      have hi : i < L.length := by omega
      have hp := hb L[i] (List.getElem_mem _)
      simp only [wageofficelaw17_sum.l0]
      rw [if_pos (by omega), if_pos (by omega), rd_por L hi, w64 (x := n + L[i].f1) (by omega) (by omega), w64 (x := (i : Int) + 1) (by omega) (by omega), List.drop_eq_getElem_cons hi, tot_cons]
      rw [show (i : Int) + 1 = ((i + 1 : Nat) : Int) from rfl, ih (i + 1) _ (by omega) (by omega) (by omega) (by omega) k (by omega)]
      congr 1
      omega
  have := key L.length 0 0 rfl (by omega) (by omega) (by omega) k hk
  simpa using this
theorem on17_f (L : List Por) (hI : Inc L) (hl : L.length ≤ 100) (hb : ∀ p ∈ L, 0 ≤ p.f1 ∧ p.f1 ≤ 1000000) (e : Int) {k : Nat} (hk : L.length < k) : wageofficelaw17_on.f k L e = some (look L e) := by
  unfold wageofficelaw17_on.f
  have key : ∀ (d i : Nat) (n : Int), L.length - i = d → i ≤ L.length → (n = 0 ∨ (look (L.drop i) e = 0 ∧ 0 ≤ n ∧ n ≤ 1000000)) → ∀ k, d < k → wageofficelaw17_on.l0 k L e n (i : Int) = some (n + look (L.drop i) e) := by
    intro d
    induction d with
    | zero =>
      intro i n h1 h2 h3 k hk
      obtain ⟨k, rfl⟩ : ∃ m, k = m + 1 := ⟨k - 1, by omega⟩
      simp only [wageofficelaw17_on.l0]
      rw [if_neg (by omega), List.drop_eq_nil_of_le (by omega)]
      simp [look]
    | succ d ih =>
      intro i n h1 h2 h3 k hk
      obtain ⟨k, rfl⟩ : ∃ m, k = m + 1 := ⟨k - 1, by omega⟩
      have hi : i < L.length := by omega
      have hp := hb L[i] (List.getElem_mem _)
      have hcut : look (L.drop i) e = if L[i].f0 = e then L[i].f1 else look (L.drop (i + 1)) e := by
        rw [List.drop_eq_getElem_cons hi]
        rfl
      rw [hcut] at h3 ⊢
      simp only [wageofficelaw17_on.l0]
      rw [if_pos (by omega), if_pos (by omega), rd_por L hi, w64 (x := (i : Int) + 1) (by omega) (by omega)]
      rw [show (i : Int) + 1 = ((i + 1 : Nat) : Int) from rfl]
      by_cases c : L[i].f0 = e
      · have hz : look (L.drop (i + 1)) e = 0 := look_none (fun q hq => by
          obtain ⟨j, hj, rfl⟩ := List.mem_iff_getElem.1 hq
          rw [List.getElem_drop]
          have := List.pairwise_iff_getElem.1 hI i (i + 1 + j) hi (by rw [List.length_drop] at hj; omega) (by omega)
          omega)
        rw [if_pos c] at h3
        rw [if_pos c, if_pos c, w64 (x := n + L[i].f1) (by omega) (by omega), ih (i + 1) _ (by omega) (by omega) (.inr ⟨hz, by omega, by omega⟩) k (by omega), hz]
        congr 1
        omega
      · rw [if_neg c] at h3
        rw [if_neg c, if_neg c, ih (i + 1) n (by omega) (by omega) h3 k (by omega)]
  have := key L.length 0 0 rfl (by omega) (.inl rfl) k hk
  simpa using this
end Go.Proofs.Ytnpceipoakclbaa.Q

namespace Go.Proofs.Ytnpceipoakclbaa.Q
open Go.RowKit Go.Proofs.YtnpceipoakclbaaW.PrintWords Go.Proofs.YtnpceipoakclbaaW.PrintLast Go.Proofs.YtnpceipoakclbaaW.PrintMore
set_option linter.unusedVariables false
set_option linter.unusedSimpArgs false
def dutyB (f t s : Int) : Bool := decide (0 ≤ f ∧ f < t ∧ t ≤ 52596000 ∧ t - f ≤ 1440 ∧ 0 ≤ s ∧ s ≤ 65535)
def restV (f1 t1 s1 f2 t2 s2 : Int) : Int := if dutyB f1 t1 s1 = true ∧ dutyB f2 t2 s2 = true then (if f2 < f1 then max (-1) (f1 - t2) else max (-1) (f2 - t1)) else -1
theorem sRest_f (f1 t1 s1 f2 t2 s2 : Int) {k : Nat} (hk : 2 ≤ k) : shifts_Rest.f k f1 t1 s1 f2 t2 s2 = some (restV f1 t1 s1 f2 t2 s2) := by
  obtain ⟨k, rfl⟩ : ∃ m, k = m + 1 := ⟨k - 1, by omega⟩
  unfold shifts_Rest.f restV
  rw [sValid_f, sValid_f]
  simp only [Option.bind_some]
  by_cases h1 : dutyB f1 t1 s1 = true
  · have h1' : decide (0 ≤ f1 ∧ f1 < t1 ∧ t1 ≤ 52596000 ∧ t1 - f1 ≤ 1440 ∧ 0 ≤ s1 ∧ s1 ≤ 65535) = true := h1
    rw [if_pos h1']
    by_cases h2 : dutyB f2 t2 s2 = true
    · have h2' : decide (0 ≤ f2 ∧ f2 < t2 ∧ t2 ≤ 52596000 ∧ t2 - f2 ≤ 1440 ∧ 0 ≤ s2 ∧ s2 ≤ 65535) = true := h2
      have b1 := of_decide_eq_true h1'
      have b2 := of_decide_eq_true h2'
      rw [h2', if_pos ⟨h1, h2⟩]
      simp only [Bool.not_true, shifts_Rest.j0, Bool.false_eq_true, if_false, shifts_limitsOf.f, Option.bind_some, shifts_limits_int__shifts_limits_begin.f, shifts_limits_begin.f, shifts_limits_end.f]
      have m1 : ∀ x : Int, mx (-1) x = max (-1) x := fun x => by unfold mx; omega
      by_cases c : f2 < f1
      · rw [if_pos c, if_pos c]
        simp only [Option.bind_some]
        rw [w64 (by omega) (by omega), m1]
      · rw [if_neg c, if_neg c]
        simp only [Option.bind_some]
        rw [w64 (by omega) (by omega), m1]
    · have h2' : decide (0 ≤ f2 ∧ f2 < t2 ∧ t2 ≤ 52596000 ∧ t2 - f2 ≤ 1440 ∧ 0 ≤ s2 ∧ s2 ≤ 65535) = false := by
        have : dutyB f2 t2 s2 = false := by simpa using h2
        exact this
      rw [h2', if_neg (fun h => h2 h.2)]
      simp only [Bool.not_false, shifts_Rest.j0, if_true]
  · have h1' : ¬ decide (0 ≤ f1 ∧ f1 < t1 ∧ t1 ≤ 52596000 ∧ t1 - f1 ≤ 1440 ∧ 0 ≤ s1 ∧ s1 ≤ 65535) = true := h1
    rw [if_neg h1', if_neg (fun h => h1 h.1)]
    simp only [shifts_Rest.j0, if_true]
end Go.Proofs.Ytnpceipoakclbaa.Q

namespace Go.Proofs.Ytnpceipoakclbaa.Q
open Go Go.RowKit Go.Proofs.YtnpceipoakclbaaW.PrintWords Go.Proofs.YtnpceipoakclbaaW.PrintLast Go.Proofs.YtnpceipoakclbaaW.PrintMore
set_option linter.unusedVariables false
set_option linter.unusedSimpArgs false
theorem parts_l0 (C A B : List Por) (hA : Inc A) (hB : Inc B) (lC : C.length ≤ 100) (lA : A.length ≤ 100) (lB : B.length ≤ 100) (mC : ∀ p ∈ C, 0 ≤ p.f1 ∧ p.f1 ≤ 10000) (mA : ∀ p ∈ A, 0 ≤ p.f1 ∧ p.f1 ≤ 10000) (mB : ∀ p ∈ B, 0 ≤ p.f1 ∧ p.f1 ≤ 10000)
    (hp : ∀ p ∈ C, p.f1 = look A p.f0 + look B p.f0) (ht : tot C = tot A + tot B) (hb : ∀ p ∈ C, 0 ≤ look A p.f0 ∧ look A p.f0 ≤ 10000 ∧ 0 ≤ look B p.f0 ∧ look B p.f0 ≤ 10000) :
    ∀ (d i : Nat), C.length - i = d → i ≤ C.length → ∀ k, d + 200 < k → wageofficelaw17_ShiftsParts.l0 k true C A B (i : Int) = some true := by
  intro d
  induction d with
  | zero =>
    intro i h1 h2 k hk
    obtain ⟨k, rfl⟩ : ∃ m, k = m + 1 := ⟨k - 1, by omega⟩
    have b1 := tot_bd A 10000 mA
    have b2 := tot_bd B 10000 mB
    simp only [wageofficelaw17_ShiftsParts.l0, if_true]
    rw [if_neg (by omega), sum17_f C (by omega) (fun p h => by have := mC p h; omega) (by omega), sum17_f A (by omega) (fun p h => by have := mA p h; omega) (by omega), sum17_f B (by omega) (fun p h => by have := mB p h; omega) (by omega)]
    simp only [Option.bind_some]
    rw [ht, w64 (by omega) (by omega)]
    simp
  | succ d ih =>
    intro i h1 h2 k hk
    obtain ⟨k, rfl⟩ : ∃ m, k = m + 1 := ⟨k - 1, by omega⟩
    have hi : i < C.length := by omega
    have q := hp C[i] (List.getElem_mem _)
    have qb := hb C[i] (List.getElem_mem _)
    have e4 := Lib.hid <| show wrap64 ((i : Int) + 1) = ((i + 1 : Nat) : Int) from by rw [w64 (by omega) (by omega)]; rfl
    simp only [wageofficelaw17_ShiftsParts.l0, if_true]
    rw [if_pos (by omega), if_pos (by omega), rd_por C hi, on17_f A hA (by omega) (fun p h => by have := mA p h; omega) _ (by omega), on17_f B hB (by omega) (fun p h => by have := mB p h; omega) _ (by omega)]
    simp only [Option.bind_some]
    rw [e4.out, w64 (x := look A C[i].f0 + look B C[i].f0) (by omega) (by omega), q, beq_self_eq_true]
    exact ih (i + 1) (by omega) (by omega) k (by omega)
theorem look_splC {base : Int} {l : List Chg} (fr tt e : Int) : look (splC base l fr tt) e = isum (fun x => ind (loc base l x / 1440 = e)) fr (tt - fr).toNat := by
  unfold splC
  rw [mdays_look _ _ _ _ _ List.Pairwise.nil]
  have e0 : look [] e = 0 := rfl
  rw [e0, Int.zero_add]
theorem look_splC_bd {base : Int} {l : List Chg} {fr tt : Int} (e : Int) (h : fr ≤ tt) : 0 ≤ look (splC base l fr tt) e ∧ look (splC base l fr tt) e ≤ tt - fr := by
  rw [look_splC]
  have l1 := isum_le (F := fun _ => 0) (G := fun t => ind (loc base l t / 1440 = e)) (tt - fr).toNat fr (fun x _ _ => (ind_nonneg _).1)
  have l2 := isum_le (F := fun t => ind (loc base l t / 1440 = e)) (G := fun _ => 1) (tt - fr).toNat fr (fun x _ _ => (ind_nonneg _).2)
  rw [isum_const] at l1 l2
  omega
theorem ShiftsParts_pure (a : Int) (l : List S50) (b c d e : Int) (w : S50) (oka : (Lit.int .i64 a).wf = true) (okl : ∀ y ∈ l, ok50 y) (hl : l.length ≤ maxLen) (okb : (Lit.int .i64 b).wf = true) (okc : (Lit.int .i64 c).wf = true) (okd : (Lit.int .i64 d).wf = true) (oke : (Lit.int .i64 e).wf = true) (okw : ok50 w) :
    Ev (fun k => wageofficelaw17_ShiftsParts.f k a l b c d e w.f0 w.f1) true := by
  obtain ⟨nm, base, L, hz, hL, hv, hc, _⟩ := zone_f a l oka okl
  obtain ⟨f, t, s, hd, d1, d2, d3, d4, d5, d6⟩ := duty_f nm base L hL hc b c d okb okc okd
  have p1 := pk_bd w.f0 (n := 1441) (by omega)
  have p2 := pk_bd w.f1 (n := 1441) (by omega)
  refine ⟨400, fun k hk => ?_⟩
  unfold wageofficelaw17_ShiftsParts.f
  dsimp only
  rw [head17 (by omega), hz k (by omega)]
  simp only [Option.bind_some]
  rw [hd k (by omega)]
  simp only [Option.bind_some]
  rw [w64 (x := t - f) (by omega) (by omega)]
  by_cases h2 : t - f < 2
  · rw [if_pos h2]
  · rw [if_neg h2, pick_f okw.1 (by omega), pick_f okw.2 (by omega), w64 (x := t - f - 1) (by omega) (by omega), pick_f oke (by omega)]
    have p3 := pk_bd e (n := t - f - 1) (by omega)
    simp only [Option.bind_some]
    generalize pk w.f0 1441 = x at *
    generalize pk w.f1 1441 = y at *
    generalize pk e (t - f - 1) = z at *
    rw [w64 (x := f + 1) (by omega) (by omega), w64 (x := f + 1 + z) (by omega) (by omega)]
    rw [sMinutes_good nm hv (by omega) d2 d3 (by omega) ⟨d5, by omega⟩, sMinutes_good nm hv (f := f) (t := f + 1 + z) (by omega) (by omega) (by omega) (by omega) ⟨d5, by omega⟩, sMinutes_good nm hv (f := f + 1 + z) (t := t) (by omega) (by omega) (by omega) (by omega) ⟨d5, by omega⟩]
    rw [sNight_good nm hv (by omega) d2 d3 (by omega) ⟨d5, by omega⟩ ⟨p1.1, by omega, p2.1, by omega⟩, sNight_good nm hv (f := f) (t := f + 1 + z) (by omega) (by omega) (by omega) (by omega) ⟨d5, by omega⟩ ⟨p1.1, by omega, p2.1, by omega⟩, sNight_good nm hv (f := f + 1 + z) (t := t) (by omega) (by omega) (by omega) (by omega) ⟨d5, by omega⟩ ⟨p1.1, by omega, p2.1, by omega⟩]
    have e2 := winV_add base L x y (fr := f) (md := f + 1 + z) (tt := t) (by omega) (by omega)
    have b3 := winV_bd base L x y (fr := f) (tt := f + 1 + z) (by omega)
    have b4 := winV_bd base L x y (fr := f + 1 + z) (tt := t) (by omega)
    simp only [Option.bind_some, if_true]
    rw [w64 (x := winV base L f (f + 1 + z) x y + winV base L (f + 1 + z) t x y) (by omega) (by omega), if_pos e2.symm, sRest_f _ _ _ _ _ _ (by omega)]
    have hr : restV f (f + 1 + z) s (f + 1 + z) t s = 0 := by
      unfold restV dutyB
      rw [if_pos ⟨decide_eq_true (by omega), decide_eq_true (by omega)⟩, if_neg (by omega)]
      omega
    rw [hr]
    simp only [Option.bind_some, beq_self_eq_true]
    have L1 := (splC_three hv (fr := f) (tt := t) (by omega) (by omega)).2
    have L2 := (splC_three hv (fr := f) (tt := f + 1 + z) (by omega) (by omega)).2
    have L3 := (splC_three hv (fr := f + 1 + z) (tt := t) (by omega) (by omega)).2
    refine parts_l0 _ _ _ (splC_inc _ _ _ _) (splC_inc _ _ _ _) (by omega) (by omega) (by omega) (fun p hp => by have := splC_mem hp; omega) (fun p hp => by have := splC_mem hp; omega) (fun p hp => by have := splC_mem hp; omega) (fun p hp => ?_) ?_ (fun p hp => ?_) _ 0 rfl (by omega) k (by omega)
    · rw [← (look_mem (splC_inc _ _ _ _) hp).2, look_splC, look_splC, look_splC, ← isum_split _ (by omega) (by omega)]
    · rw [splC_tot _ _ (by omega), splC_tot _ _ (by omega), splC_tot _ _ (by omega)]
      omega
    · have q1 := look_splC_bd (base := base) (l := L) (fr := f) (tt := f + 1 + z) p.f0 (by omega)
      have q2 := look_splC_bd (base := base) (l := L) (fr := f + 1 + z) (tt := t) p.f0 (by omega)
      omega
end Go.Proofs.Ytnpceipoakclbaa.Q

namespace Go.Proofs.Ytnpceipoakclbaa.shiftsParts
open Go.ChangeShapes Go.WideShapes Go.ChangeAt Go.RowKit
open Go.ChangeMaps (open_string shut_string)
open Go.Proofs.YtnpceipoakclbaaW.PrintWords Go.Proofs.YtnpceipoakclbaaW.PrintLast Go.Proofs.Ytnpceipoakclbaa.Q
set_option linter.unusedVariables false
theorem own : ownKnob Try.prog.godebug = none := by kernel_rfl
theorem laidOut : laidOutB Try.prog = true := by kernel_rfl
set_option maxRecDepth 100000 in
theorem lifted (os : Os) (started : os.Started) (H : Type) (enc : TypeId × Value → H) :
    ReturnsInHanded {} Try.checked os 6 .any (Rows.shiftsPartsSpec.pre6 enc Try.prog Try.f6 Rows.shiftsPartsRow.domain false) (Rows.shiftsPartsSpec.post enc Try.prog Try.f6 false true false false) := by
  refine returnsInHanded_of_change_sized (C := Try.checked) own started (by kernel_rfl) Try.func6
    (ChangeSpec.witness6 (enc := enc) (C := Try.checked) false ⟨#[], #[.int .i64 0, .slice none 0 0, .int .i64 0, .int .i64 0, .int .i64 0, .int .i64 0, .agg #[.int .i64 0, .int .i64 0]], []⟩ 8 (by kernel_rfl) (by kernel_rfl) (by kernel_rfl) (by kernel_rfl)) ?_
  intro W base args ds gs before hval0 hW hcnd hsz0 _
  have hval : ∀ (j : Nat) t v, Try.f6.params[j]? = some t → args[j]? = some v → Value.okWide Try.prog W .any base t v := hval0
  have hW' := hW
  obtain ⟨p, q, hA0, hV, rfl, hfz, hnd⟩ := hW
  have hA : DataW.TrodAll enc Try.prog W 0 (fun _ => true) true Try.f6.params.toList args.toList ds p := hA0
  rw [Try.params6] at hA hval
  obtain ⟨v0, vs0, d0, ds0, p0, q0, hargs, rfl, rfl, h0, r0⟩ := trodAll_cons hA
  obtain ⟨v1, vs1, d1, ds1, p1, q1, rfl, rfl, rfl, h1, r1⟩ := trodAll_cons r0
  obtain ⟨v2, vs2, d2, ds2, p2, q2, rfl, rfl, rfl, h2, r2⟩ := trodAll_cons r1
  obtain ⟨v3, vs3, d3, ds3, p3, q3, rfl, rfl, rfl, h3, r3⟩ := trodAll_cons r2
  obtain ⟨v4, vs4, d4, ds4, p4, q4, rfl, rfl, rfl, h4, r4⟩ := trodAll_cons r3
  obtain ⟨v5, vs5, d5, ds5, p5, q5, rfl, rfl, rfl, h5, r5⟩ := trodAll_cons r4
  obtain ⟨v6, vs6, d6, ds6, p6, q6, rfl, rfl, rfl, h6, r6⟩ := trodAll_cons r5
  obtain ⟨rfl, rfl, rfl⟩ := trodAll_nil r6
  obtain rfl : args = #[v0, v1, v2, v3, v4, v5, v6] := by cases args; simp_all
  obtain ⟨rfl, rfl⟩ := trodVars_none hV
  obtain ⟨a0, rfl, rfl, rfl, ok0⟩ := open_int Try.underlying3 (hval 0 3 v0 rfl rfl) h0
  have k1 := h1
  have lt1 : ∀ x ∈ p1, x.block < W.heap.size := by obtain ⟨m, hm⟩ := k1; exact DataW.trod_lt m _ _ _ hm
  obtain ⟨A1, l1, c1, rfl, hc1, hr1, ok1, hm1⟩ := open_row Try.underlying29 (by kernel_rfl) opens50 (hval 1 29 v1 rfl rfl) h1
  obtain ⟨a2, rfl, rfl, rfl, ok2⟩ := open_int Try.underlying3 (hval 2 3 v2 rfl rfl) h2
  obtain ⟨a3, rfl, rfl, rfl, ok3⟩ := open_int Try.underlying3 (hval 3 3 v3 rfl rfl) h3
  obtain ⟨a4, rfl, rfl, rfl, ok4⟩ := open_int Try.underlying3 (hval 4 3 v4 rfl rfl) h4
  obtain ⟨a5, rfl, rfl, rfl, ok5⟩ := open_int Try.underlying3 (hval 5 3 v5 rfl rfl) h5
  have k6 := h6
  have lt6 : ∀ x ∈ p6, x.block < W.heap.size := by obtain ⟨m, hm⟩ := k6; exact DataW.trod_lt m _ _ _ hm
  obtain ⟨cs6, y6, rfl, K6, ok6⟩ := open_arr Try.underlying50 opens50 (hval 6 50 v6 rfl rfl) h6
  have K6' := k50_openR K6
  obtain ⟨rfl⟩ := K6'
  clear hA0 hval0 hsz0
  obtain ⟨k, hP⟩ := (ShiftsParts_pure a0 l1 a2 a3 a4 a5 y6 ok0 ok1 hm1 ok2 ok3 ok4 ok5 ok6).rounds
  refine (wageofficelaw17_ShiftsParts.calls k a0 A1 c1 l1 a2 a3 a4 a5 y6.f0 y6.f1 true W hr1 hc1 hP).mono fun e W' ⟨he, bel0⟩ => ?_
  have bel : Below W.heap.size W W' := bel0
  subst he
  exact ⟨_, rfl, _, _, _, [], _, [], hW', trodAll_mk1 (shut_bool Try.underlying4 _), (trodAll_cons_mk (shut_int Try.underlying3 ok0) (trodAll_cons_mk (Below.trod laidOut (by kernel_rfl) (of_decide_eq_true (by kernel_rfl)) k1 bel lt1) (trodAll_cons_mk (shut_int Try.underlying3 ok2) (trodAll_cons_mk (shut_int Try.underlying3 ok3) (trodAll_cons_mk (shut_int Try.underlying3 ok4) (trodAll_cons_mk (shut_int Try.underlying3 ok5) (trodAll_cons_mk (Below.trod laidOut (by kernel_rfl) (of_decide_eq_true (by kernel_rfl)) k6 bel lt6) trodAll_mk0))))))), rfl, bel.frame _, fun h => by cases h⟩
theorem over : Rows.shiftsPartsRow.holds Try.pinned (OpenSpec.ofChange Rows.shiftsPartsSpec) :=
  OpenClaim.holds_of_wide 6 Try.f6 rfl rfl rfl rfl rfl rfl rfl ⟨rfl, rfl, rfl, rfl, rfl⟩ rfl rfl rfl rfl rfl (by kernel_rfl) Try.func6 (by kernel_rfl)
    (of_decide_eq_true (by kernel_rfl)) (by unfold Func.isWrapper; first | (rw [if_pos (by decide +kernel)]; kernel_rfl) | (rw [if_neg (by decide +kernel)]; exact ⟨rfl, rfl⟩))
    (fun os started H enc _ => lifted os started H enc)
theorem proved : Rows.ShiftsPartsSaid := over
end Go.Proofs.Ytnpceipoakclbaa.shiftsParts
namespace Go.Proofs.Ytnpceipoakclbaa
theorem shiftsParts_holds : Rows.ShiftsPartsSaid := shiftsParts.proved
end Go.Proofs.Ytnpceipoakclbaa
