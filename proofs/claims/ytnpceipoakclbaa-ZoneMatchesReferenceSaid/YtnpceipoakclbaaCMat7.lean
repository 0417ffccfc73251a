/- For every zone, instants, day, minute and window, all functions of package zone return what the reference implementation returns; conditions: none beyond the reading of the inputs (the guards are inside the law).
   The walk of the law's code and its plain law (merged by wip/tools/trim.py out of own texts and of texts that the kit's printer wrote). -/
import Derived.Test.YtnpceipoakclbaaCMat6
import Derived.Deep.Slices
import Derived.ChangeArms
import Derived.WideShapes
import Derived.OpenShut
import Derived.KernelRfl
import Derived.Test.YtnpceipoakclbaaRows
import Derived.WalkKit
import Derived.ProofKit
import Derived.ShutString
import Derived.ChangeOld
import Derived.Below
import Derived.SizedLaws
namespace Go.Proofs.Ytnpceipoakclbaa.Q
open Go.RowKit Go.Proofs.YtnpceipoakclbaaW.PrintWords Go.Proofs.YtnpceipoakclbaaW.PrintLast Go.Proofs.YtnpceipoakclbaaW.PrintMore
set_option linter.unusedVariables false
set_option linter.unusedSimpArgs false
def mdays (F : Int → Int) : Nat → Int → List Por → List Por
  | 0, _, L => L
  | n + 1, t, L => mdays F n (t + 1) (addD (F t) 1 L)
theorem mdays_inc (F : Int → Int) : ∀ (n : Nat) (t : Int) (L : List Por), Inc L → Inc (mdays F n t L) := by
  intro n
  induction n with
  | zero => intro t L h; exact h
  | succ n ih => intro t L h; exact ih _ _ (inc_add h _ _)
theorem mdays_look (F : Int → Int) (e : Int) : ∀ (n : Nat) (t : Int) (L : List Por), Inc L → look (mdays F n t L) e = look L e + isum (fun x => ind (F x = e)) t n := by
  intro n
  induction n with
  | zero => intro t L _; simp [mdays, isum]
  | succ n ih =>
    intro t L h
    simp only [mdays, isum]
    rw [ih _ _ (inc_add h _ _)]
    by_cases c : F t = e
    · subst c
      rw [look_add h, ind_yes rfl]
      omega
    · rw [look_add_other (Ne.symm c), ind_no c]
      omega
theorem mdays_has (F : Int → Int) (e : Int) : ∀ (n : Nat) (t : Int) (L : List Por), hasD (mdays F n t L) e = true ↔ (hasD L e = true ∨ ∃ x, t ≤ x ∧ x < t + n ∧ F x = e) := by
  intro n
  induction n with
  | zero =>
    intro t L
    simp only [mdays]
    exact ⟨.inl, fun h => by rcases h with h | ⟨x, h1, h2, _⟩; exact h; omega⟩
  | succ n ih =>
    intro t L
    simp only [mdays]
    rw [ih, hasD_add]
    simp only [Bool.or_eq_true, decide_eq_true_eq]
    constructor
    · rintro ((h | h) | ⟨x, h1, h2, h3⟩)
      · exact .inl h
      · exact .inr ⟨t, by omega, by omega, h⟩
      · exact .inr ⟨x, by omega, by omega, h3⟩
    · rintro (h | ⟨x, h1, h2, h3⟩)
      · exact .inl (.inl h)
      · by_cases c : x = t
        · subst c
          exact .inl (.inr h3)
        · exact .inr ⟨x, by omega, by omega, h3⟩
theorem rsplit_in (F : Int → Int) : ∀ (n : Nat) (t : Int) (L : List Por), (∀ x, t ≤ x → x < t + n → 0 ≤ F x ∧ F x ≤ 36524) → rsplit F n t L = (mdays F n t L, 0) := by
  intro n
  induction n with
  | zero => intro t L _; rfl
  | succ n ih =>
    intro t L h
    simp only [rsplit, mdays]
    rw [if_pos (h t (by omega) (by omega)), ih _ _ (fun x h1 h2 => h x (by omega) (by omega))]
theorem rsplit_out (F : Int → Int) : ∀ (n : Nat) (t : Int) (L : List Por), (∃ x, t ≤ x ∧ x < t + n ∧ ¬ (0 ≤ F x ∧ F x ≤ 36524)) → rsplit F n t L = ([], 21) := by
  intro n
  induction n with
  | zero => rintro t L ⟨x, h1, h2, _⟩; omega
  | succ n ih =>
    rintro t L ⟨x, h1, h2, h3⟩
    simp only [rsplit]
    by_cases c : 0 ≤ F t ∧ F t ≤ 36524
    · rw [if_pos c]
      have hx : x ≠ t := fun h => by subst h; exact h3 c
      exact ih _ _ ⟨x, by omega, by omega, h3⟩
    · rw [if_neg c]
theorem mem_iff {L : List Por} (hI : Inc L) (p : Por) : p ∈ L ↔ (hasD L p.f0 = true ∧ look L p.f0 = p.f1) := by
  constructor
  · exact look_mem hI
  · rintro ⟨h1, h2⟩
    have := mem_look h1
    rw [h2] at this
    exact this
theorem inc_same {A B : List Por} (hA : Inc A) (hB : Inc B) (h1 : ∀ e, hasD A e = true ↔ hasD B e = true) (h2 : ∀ e, look A e = look B e) : A = B :=
  inc_ext hA hB fun p => by rw [mem_iff hA, mem_iff hB, h1, h2]
theorem isum_some {F : Int → Int} {e : Int} : ∀ (n : Nat) (t : Int), 1 ≤ isum (fun x => ind (F x = e)) t n → ∃ x, t ≤ x ∧ x < t + n ∧ F x = e := by
  intro n
  induction n with
  | zero => intro t h; simp [isum] at h
  | succ n ih =>
    intro t h
    simp only [isum] at h
    by_cases c : F t = e
    · exact ⟨t, by omega, by omega, c⟩
    · rw [ind_no c] at h
      obtain ⟨x, h1, h2, h3⟩ := ih (t + 1) (by omega)
      exact ⟨x, by omega, by omega, h3⟩
theorem splitL_minutes {fr tt base : Int} {l : List Chg} (hv : zvalid base l = true) : splitL (psteps tt l fr base) = mdays (fun t => loc base l t / 1440) (tt - fr).toNat fr [] := by
  have hA := splitL_inc (psteps tt l fr base)
  have hB := mdays_inc (fun t => loc base l t / 1440) (tt - fr).toNat fr [] List.Pairwise.nil
  have hl : ∀ e, look (splitL (psteps tt l fr base)) e = look (mdays (fun t => loc base l t / 1440) (tt - fr).toNat fr []) e := by
    intro e
    rw [look_splitL hv, mdays_look _ e _ _ _ List.Pairwise.nil]
    simp [look]
  refine inc_same hA hB (fun e => ?_) hl
  rw [hasD_splitL hv, mdays_has, look_splitL hv]
  constructor
  · intro h
    exact .inr (isum_some _ _ h)
  · rintro (h | ⟨x, h1, h2, h3⟩)
    · cases h
    · have := isum_pos (F := fun t => ind (loc base l t / 1440 = e)) (fun x => (ind_nonneg _).1) (tt - fr).toNat fr x h1 h2
      simp only [ind, if_pos h3] at this
      exact this
theorem inDays_iff {fr tt base : Int} {l : List Chg} (hv : zvalid base l = true) : inDays (splitL (psteps tt l fr base)) = true ↔ ∀ x, fr ≤ x → x < fr + (tt - fr).toNat → 0 ≤ loc base l x / 1440 ∧ loc base l x / 1440 ≤ 36524 := by
  rw [splitL_minutes hv]
  have hB := mdays_inc (fun t => loc base l t / 1440) (tt - fr).toNat fr [] List.Pairwise.nil
  unfold inDays
  rw [List.all_eq_true]
  simp only [decide_eq_true_eq]
  constructor
  · intro h x h1 h2
    have hh := (mdays_has (fun t => loc base l t / 1440) (loc base l x / 1440) (tt - fr).toNat fr []).2 (.inr ⟨x, h1, h2, rfl⟩)
    exact h _ (mem_look hh)
  · intro h p hp
    have hh := (look_mem hB hp).1
    rcases (mdays_has _ _ _ _ _).1 hh with h3 | ⟨x, h1, h2, h3⟩
    · cases h3
    · have := h x h1 h2
      rw [← h3]
      exact this
theorem split_same (nm : ByteArray) (base : Int) (l : List Chg) (fr tt : Int) : wageofficeref03_Split.f nm base l fr tt = zone_Split.f nm base l fr tt := by
  unfold wageofficeref03_Split.f zone_Split.f
  by_cases hs : stretchE base l fr tt = 0
  · rw [if_pos hs, if_pos hs]
    have hv := (stretch_ok hs).2.2.2.2
    by_cases hd : inDays (splitL (psteps tt l fr base)) = true
    · rw [if_pos hd, rsplit_in _ _ _ _ ((inDays_iff hv).1 hd), splitL_minutes hv]
    · rw [if_neg hd]
      have hx : ∃ x, fr ≤ x ∧ x < fr + (tt - fr).toNat ∧ ¬ (0 ≤ loc base l x / 1440 ∧ loc base l x / 1440 ≤ 36524) := by
        apply Classical.byContradiction
        intro hn
        exact hd ((inDays_iff hv).2 fun x h1 h2 => by
          apply Classical.byContradiction
          intro h3
          exact hn ⟨x, h1, h2, h3⟩)
      rw [rsplit_out _ _ _ _ hx]
  · rw [if_neg hs, if_neg hs]
theorem same_self (L : List Por) (hl : L.length ≤ 1000000) : ∀ k, L.length < k → wageofficeref03_Same.f k L L = some true := by
  intro k hk
  unfold wageofficeref03_Same.f
  rw [if_pos rfl]
  have key : ∀ (d i : Nat), L.length - i = d → i ≤ L.length → ∀ k, d < k → wageofficeref03_Same.l0 k L L (i : Int) = some true := by
    intro d
    induction d with
    | zero =>
      intro i h1 h2 k hk
      obtain ⟨k, rfl⟩ : ∃ m, k = m + 1 := ⟨k - 1, by omega⟩
      simp only [wageofficeref03_Same.l0]
      rw [if_neg (by omega)]
    | succ d ih =>
      intro i h1 h2 k hk
      obtain ⟨k, rfl⟩ : ∃ m, k = m + 1 := ⟨k - 1, by omega⟩
      have e4 : wrap64 ((i : Int) + 1) = ((i + 1 : Nat) : Int) := by rw [w64 (by omega) (by omega)]; rfl
      simp only [wageofficeref03_Same.l0]
      rw [if_pos (by omega), if_pos (by omega), if_pos (by omega), if_neg (by simp), e4]
      exact ih (i + 1) (by omega) (by omega) k (by omega)
  exact key L.length 0 rfl (Nat.zero_le _) k hk
end Go.Proofs.Ytnpceipoakclbaa.Q

namespace Go.Proofs.Ytnpceipoakclbaa.Q
open Go.RowKit Go.Proofs.YtnpceipoakclbaaW.PrintWords Go.Proofs.YtnpceipoakclbaaW.PrintLast Go.Proofs.YtnpceipoakclbaaW.PrintMore
theorem head03_true : wageofficelaw03_head.f 90 = some true := by decide +kernel
end Go.Proofs.Ytnpceipoakclbaa.Q

namespace Go.Proofs.Ytnpceipoakclbaa.Q
open Go.RowKit Go.Proofs.YtnpceipoakclbaaW.PrintWords Go.Proofs.YtnpceipoakclbaaW.PrintLast Go.Proofs.YtnpceipoakclbaaW.PrintMore
set_option linter.unusedVariables false
set_option linter.unusedSimpArgs false
theorem head03 {k : Nat} (hk : 90 ≤ k) : wageofficelaw03_head.f k = some true := at_rounds wageofficelaw03_head.mono hk head03_true
theorem valid_parts {base : Int} {l : List Chg} (hv : zvalid base l = true) : l.length ≤ 64 ∧ -840 ≤ base ∧ base ≤ 840 ∧ zvFrom (-2880) base l = true := by
  unfold zvalid at hv
  simp only [Bool.and_eq_true, decide_eq_true_eq] at hv
  exact ⟨hv.1.1, hv.1.2.1, hv.1.2.2, hv.2⟩
theorem offAt_bd : ∀ {l : List Chg} {a o : Int} (t : Int), zvFrom a o l = true → -840 ≤ o → o ≤ 840 → -840 ≤ offAt l o t ∧ offAt l o t ≤ 840 := by
  intro l
  induction l with
  | nil => intro a o t _ h1 h2; exact ⟨h1, h2⟩
  | cons c cs ih =>
    intro a o t h h1 h2
    unfold zvFrom at h
    simp only [Bool.and_eq_true, decide_eq_true_eq] at h
    unfold offAt
    by_cases hc : c.f0 ≤ t
    · rw [if_pos hc]
      exact ih t h.2 h.1.2.2.1 h.1.2.2.2.1
    · rw [if_neg hc]
      exact ⟨h1, h2⟩
theorem off_bd {base : Int} {l : List Chg} (hv : zvalid base l = true) (t : Int) : -840 ≤ offAt l base t ∧ offAt l base t ≤ 840 := by
  obtain ⟨_, h1, h2, h3⟩ := valid_parts hv
  exact offAt_bd t h3 h1 h2
def localR (base : Int) (l : List Chg) (t : Int) : Int × Int × Int :=
  if 0 ≤ t ∧ t ≤ 52595999 ∧ zvalid base l = true then (if 0 ≤ loc base l t / 1440 ∧ loc base l t / 1440 ≤ 36524 then (loc base l t / 1440, loc base l t % 1440, 0) else (0, 0, 21)) else (0, 0, 1)
theorem local_f (nm : ByteArray) (base : Int) (l : List Chg) (t : Int) (k : Nat) (hk : 90 ≤ k) : zone_Local.f k nm base l t = some (localR base l t) := by
  obtain ⟨k, rfl⟩ : ∃ m, k = m + 1 := ⟨k - 1, by omega⟩
  unfold zone_Local.f localR
  rw [between_f]
  simp only [Option.bind_some]
  by_cases h1 : 0 ≤ t ∧ t ≤ 52595999
  · rw [decide_eq_true h1, if_pos rfl, zValid_f nm base l (k + 1) (by omega)]
    simp only [Option.bind_some, zone_Local.j0]
    cases hv : zvalid base l with
    | false =>
      rw [if_pos (by rfl), if_neg (fun h => by have := h.2.2; cases this)]
    | true =>
      have hb := off_bd hv t
      rw [if_neg (by simp), if_pos ⟨h1.1, h1.2, rfl⟩]
      unfold zone_offset.f
      rw [if_pos (by omega), offset_eq hv]
      simp only [Option.bind_some]
      have e1 : wrap64 (t + offAt l base t) = loc base l t := w64 (by omega) (by omega)
      have hx : -840 ≤ loc base l t ∧ loc base l t ≤ 52596839 := by unfold loc; omega
      rw [e1, dayOf_f _ (by omega) (by omega)]
      simp only [Option.bind_some, between_f, decide_eq_true_eq]
      by_cases h2 : 0 ≤ loc base l t / 1440 ∧ loc base l t / 1440 ≤ 36524
      · rw [if_pos h2, if_pos h2]
        have e2 : wrap64 (loc base l t / 1440 * 1440) = loc base l t / 1440 * 1440 := w64 (by omega) (by omega)
        rw [e2, w64 (by omega) (by omega)]
        congr 3
        omega
      · rw [if_neg h2, if_neg h2]
  · rw [decide_eq_false h1, if_neg (by simp), if_neg (fun h => h1 ⟨h.1, h.2.1⟩)]
    simp only [zone_Local.j0, if_true]
theorem local_ok (nm : ByteArray) {base : Int} {l : List Chg} {t : Int} {k : Nat} (hk : 90 ≤ k) (h1 : 0 ≤ t) (h2 : t ≤ 52595999) (hv : zvalid base l = true) (h3 : 0 ≤ loc base l t / 1440 ∧ loc base l t / 1440 ≤ 36524) : zone_Local.f k nm base l t = some (loc base l t / 1440, loc base l t % 1440, 0) := by
  rw [local_f nm base l t k hk]
  unfold localR
  rw [if_pos ⟨h1, h2, hv⟩, if_pos h3]
theorem local_date (nm : ByteArray) {base : Int} {l : List Chg} {t : Int} {k : Nat} (hk : 90 ≤ k) (h1 : 0 ≤ t) (h2 : t ≤ 52595999) (hv : zvalid base l = true) (h3 : ¬ (0 ≤ loc base l t / 1440 ∧ loc base l t / 1440 ≤ 36524)) : zone_Local.f k nm base l t = some (0, 0, 21) := by
  rw [local_f nm base l t k hk]
  unfold localR
  rw [if_pos ⟨h1, h2, hv⟩, if_neg h3]
theorem local_arg (nm : ByteArray) {base : Int} {l : List Chg} {t : Int} {k : Nat} (hk : 90 ≤ k) (h : ¬ (0 ≤ t ∧ t ≤ 52595999 ∧ zvalid base l = true)) : zone_Local.f k nm base l t = some (0, 0, 1) := by
  rw [local_f nm base l t k hk]
  unfold localR
  rw [if_neg h]
def offsetR (base : Int) (l : List Chg) (t : Int) : Int := if zvalid base l = true then offAt l base t else 0
theorem fold_off : ∀ {l : List Chg} {a o t : Int}, Later a l → l.foldl (fun o c => if c.f0 ≤ t then c.f1 else o) o = offAt l o t := by
  intro l
  induction l with
  | nil => intro a o t _; rfl
  | cons c cs ih =>
    intro a o t h
    rw [List.foldl_cons]
    unfold offAt
    by_cases hc : c.f0 ≤ t
    · rw [if_pos hc, if_pos hc]
      exact ih h.2
    · rw [if_neg hc, if_neg hc, ih h.2]
      exact offAt_before h.2 (by omega)
theorem offset_l0 (l : List Chg) (hl : l.length ≤ 64) (t : Int) : ∀ (d i : Nat) (o : Int), l.length - i = d → i ≤ l.length → ∀ k, d < k → zone_Offset.l0 k t o l (l.length : Int) (i : Int) = some ((l.drop i).foldl (fun o c => if c.f0 ≤ t then c.f1 else o) o) := by
  intro d
  induction d with
  | zero =>
    intro i o h1 h2 k hk
    obtain ⟨k, rfl⟩ : ∃ m, k = m + 1 := ⟨k - 1, by omega⟩
    simp only [zone_Offset.l0]
    rw [if_neg (by omega), List.drop_eq_nil_of_le (by omega)]
    rfl
  | succ d ih =>
    intro i o h1 h2 k hk
    obtain ⟨k, rfl⟩ : ∃ m, k = m + 1 := ⟨k - 1, by omega⟩
    have hi : i < l.length := by omega
    have e1 : rd_T75 l (i : Int) = l[i] := by simp [rd_T75, List.getD_eq_getElem?_getD, List.getElem?_eq_getElem hi]
    have e4 : wrap64 ((i : Int) + 1) = ((i + 1 : Nat) : Int) := by rw [w64 (by omega) (by omega)]; rfl
    simp only [zone_Offset.l0]
    rw [if_pos (by omega), if_pos (by omega), if_pos (by omega), e1, e4, List.drop_eq_getElem_cons hi, List.foldl_cons]
    by_cases hc : l[i].f0 ≤ t
    · rw [if_pos hc, if_pos hc]
      exact ih (i + 1) _ (by omega) (by omega) k (by omega)
    · rw [if_neg hc, if_neg hc]
      exact ih (i + 1) _ (by omega) (by omega) k (by omega)
theorem offset_f (nm : ByteArray) (base : Int) (l : List Chg) (t : Int) (k : Nat) (hk : 90 ≤ k) : zone_Offset.f k nm base l t = some (offsetR base l t) := by
  unfold zone_Offset.f offsetR
  rw [zValid_f nm base l k (by omega)]
  simp only [Option.bind_some]
  cases hv : zvalid base l with
  | false => simp
  | true =>
    obtain ⟨h1, h2, h3, h4⟩ := valid_parts hv
    rw [if_pos rfl, if_pos rfl]
    have := offset_l0 l h1 t l.length 0 base (by omega) (by omega) k (by omega)
    rw [List.drop_zero, fold_off (later_of_zv h4)] at this
    exact this
theorem offset_ok (nm : ByteArray) {base : Int} {l : List Chg} (t : Int) {k : Nat} (hk : 90 ≤ k) (hv : zvalid base l = true) : zone_Offset.f k nm base l t = some (offAt l base t) := by
  rw [offset_f nm base l t k hk]
  unfold offsetR
  rw [if_pos hv]
theorem loc_bd {base : Int} {l : List Chg} (hv : zvalid base l = true) {t : Int} : t - 840 ≤ loc base l t ∧ loc base l t ≤ t + 840 := by
  have := off_bd hv t
  unfold loc
  omega
end Go.Proofs.Ytnpceipoakclbaa.Q

namespace Go.Proofs.Ytnpceipoakclbaa.Q
open Go Go.RowKit Go.Proofs.YtnpceipoakclbaaW.PrintWords Go.Proofs.YtnpceipoakclbaaW.PrintLast Go.Proofs.YtnpceipoakclbaaW.PrintMore
set_option linter.unusedVariables false
set_option linter.unusedSimpArgs false
def winC (base : Int) (l : List Chg) (lo hi fr tt : Int) : Int := isum (fun t => ind (inWin lo hi (loc base l t))) fr (tt - fr).toNat
def winV (base : Int) (l : List Chg) (fr tt f t : Int) : Int := if f > t then tt - fr - winC base l t f fr tt else winC base l f t fr tt
theorem win_ok {base : Int} {l : List Chg} {fr tt f t : Int} (nm : ByteArray) (hs : stretchE base l fr tt = 0) (hf : 0 ≤ f ∧ f ≤ 1440 ∧ 0 ≤ t ∧ t ≤ 1440) : zone_Window.f nm base l fr tt f t = some (winV base l fr tt f t, 0) := by
  obtain ⟨_, _, _, _, hv⟩ := stretch_ok hs
  unfold zone_Window.f winV winC
  rw [if_pos hf, if_pos hs]
  by_cases h : f > t
  · rw [if_pos h, if_pos h, winSum_eq hv hf.2.2.1 hf.2.1]
  · rw [if_neg h, if_neg h, winSum_eq hv hf.1 hf.2.2.2]
theorem winC_add (base : Int) (l : List Chg) (lo hi : Int) {fr md tt : Int} (h1 : fr ≤ md) (h2 : md ≤ tt) : winC base l lo hi fr md + winC base l lo hi md tt = winC base l lo hi fr tt := by
  unfold winC
  rw [show (tt - fr).toNat = (md - fr).toNat + (tt - md).toNat by omega, isum_add, show fr + ((md - fr).toNat : Int) = md by omega]
theorem winC_bd (base : Int) (l : List Chg) (lo hi : Int) {fr tt : Int} (h : fr ≤ tt) : 0 ≤ winC base l lo hi fr tt ∧ winC base l lo hi fr tt ≤ tt - fr := by
  unfold winC
  have h1 := isum_le (F := fun _ => 0) (G := fun t => ind (inWin lo hi (loc base l t))) (tt - fr).toNat fr (fun x _ _ => (ind_nonneg _).1)
  have h2 := isum_le (F := fun t => ind (inWin lo hi (loc base l t))) (G := fun _ => 1) (tt - fr).toNat fr (fun x _ _ => (ind_nonneg _).2)
  rw [isum_const] at h1 h2
  omega
theorem winV_bd (base : Int) (l : List Chg) (f t : Int) {fr tt : Int} (h : fr ≤ tt) : 0 ≤ winV base l fr tt f t ∧ winV base l fr tt f t ≤ tt - fr := by
  unfold winV
  have h1 := winC_bd base l t f h
  have h2 := winC_bd base l f t h
  split <;> omega
theorem winV_add (base : Int) (l : List Chg) (f t : Int) {fr md tt : Int} (h1 : fr ≤ md) (h2 : md ≤ tt) : winV base l fr md f t + winV base l md tt f t = winV base l fr tt f t := by
  unfold winV
  have e1 := winC_add base l t f h1 h2
  have e2 := winC_add base l f t h1 h2
  split <;> omega
end Go.Proofs.Ytnpceipoakclbaa.Q

namespace Go.Proofs.Ytnpceipoakclbaa.Q
open Go Go.RowKit Go.Proofs.YtnpceipoakclbaaW.PrintWords Go.Proofs.YtnpceipoakclbaaW.PrintLast Go.Proofs.YtnpceipoakclbaaW.PrintMore
set_option linter.unusedVariables false
set_option linter.unusedSimpArgs false
structure InstOk (l : List Chg) (of fr tt cl : Int) (xs : List Int) : Prop where
  mem : ∀ t, t ∈ xs ↔ (fr ≤ t ∧ t < tt ∧ t + offAt l of t = cl)
  inc : xs.Pairwise (fun a b => a < b)
theorem inst_psteps (cl tt : Int) : ∀ (l : List Chg) (a fr of : Int), Later a l → InstOk l of fr tt cl (instL cl (psteps tt l fr of)) := by
  intro l
  induction l with
  | nil =>
    intro a fr of _
    unfold psteps
    by_cases h : fr < tt
    · rw [if_pos h]
      have e : instL cl [⟨fr, tt, of⟩] = instP cl ⟨fr, tt, of⟩ := by unfold instL; simp
      rw [e]
      unfold instP
      dsimp only
      by_cases c : fr ≤ cl - of ∧ cl - of ≤ tt - 1
      · rw [if_pos c]
        refine ⟨fun t => ?_, by simp⟩
        rw [List.mem_singleton]
        show t = cl - of ↔ (fr ≤ t ∧ t < tt ∧ t + of = cl)
        omega
      · rw [if_neg c]
        refine ⟨fun t => ?_, by simp⟩
        constructor
        · intro h; cases h
        · intro h2
          have : t + of = cl := h2.2.2
          omega
    · rw [if_neg h]
      refine ⟨fun t => ?_, by simp [instL]⟩
      constructor
      · intro h; simp [instL] at h
      · intro h2; omega
  | cons c cs ih =>
    intro a fr of hl
    unfold psteps
    by_cases h : fr < c.f0 ∧ c.f0 < tt
    · rw [if_pos h]
      obtain ⟨m1, i1⟩ := ih c.f0 c.f0 c.f1 hl.2
      have e : instL cl (⟨fr, c.f0, of⟩ :: psteps tt cs c.f0 c.f1) = instP cl ⟨fr, c.f0, of⟩ ++ instL cl (psteps tt cs c.f0 c.f1) := rfl
      rw [e]
      have hm : ∀ t, t ∈ instP cl ⟨fr, c.f0, of⟩ ↔ (fr ≤ t ∧ t < c.f0 ∧ t + of = cl) := by
        intro t
        unfold instP
        dsimp only
        by_cases c1 : fr ≤ cl - of ∧ cl - of ≤ c.f0 - 1
        · rw [if_pos c1, List.mem_singleton]
          omega
        · rw [if_neg c1]
          constructor
          · intro h; cases h
          · intro h2; omega
      constructor
      · intro t
        rw [List.mem_append, hm, m1]
        have e2 : offAt (c :: cs) of t = if c.f0 ≤ t then offAt cs c.f1 t else of := rfl
        rw [e2]
        by_cases c2 : c.f0 ≤ t
        · rw [if_pos c2]; omega
        · rw [if_neg c2]; omega
      · rw [List.pairwise_append]
        refine ⟨by unfold instP; split <;> simp, i1, fun x hx y hy => ?_⟩
        have := (hm x).1 hx
        have := (m1 y).1 hy
        omega
    · rw [if_neg h]
      by_cases h2 : c.f0 ≤ fr
      · rw [if_pos h2]
        obtain ⟨m1, i1⟩ := ih c.f0 fr c.f1 hl.2
        refine ⟨fun t => ?_, i1⟩
        rw [m1]
        have e2 : offAt (c :: cs) of t = if c.f0 ≤ t then offAt cs c.f1 t else of := rfl
        rw [e2]
        by_cases c2 : c.f0 ≤ t
        · rw [if_pos c2]
        · rw [if_neg c2]; omega
      · rw [if_neg h2]
        obtain ⟨m1, i1⟩ := ih c.f0 fr of hl.2
        refine ⟨fun t => ?_, i1⟩
        rw [m1]
        have e2 : offAt (c :: cs) of t = if c.f0 ≤ t then offAt cs c.f1 t else of := rfl
        rw [e2]
        by_cases c2 : c.f0 ≤ t
        · rw [if_pos c2]; omega
        · rw [if_neg c2]
          constructor
          · rintro ⟨q1, q2, q3⟩
            rw [offAt_before hl.2 (by omega)] at q3
            exact ⟨q1, q2, q3⟩
          · rintro ⟨q1, q2, q3⟩
            rw [offAt_before hl.2 (by omega)]
            exact ⟨q1, q2, q3⟩
def instR (base : Int) (l : List Chg) (cl : Int) : List Int := instL cl (psteps (min 52595999 (cl + 840) + 1) l (max 0 (cl - 840)) base)
theorem instR_mem {base : Int} {l : List Chg} (hv : zvalid base l = true) (cl t : Int) : t ∈ instR base l cl ↔ (0 ≤ t ∧ t ≤ 52595999 ∧ loc base l t = cl) := by
  have h := (inst_psteps cl (min 52595999 (cl + 840) + 1) l _ (max 0 (cl - 840)) base (later_valid hv)).mem t
  unfold instR
  rw [h]
  have hb := off_bd hv t
  unfold loc
  omega
theorem instR_inc {base : Int} {l : List Chg} (hv : zvalid base l = true) (cl : Int) : (instR base l cl).Pairwise (fun a b => a < b) :=
  (inst_psteps cl (min 52595999 (cl + 840) + 1) l _ (max 0 (cl - 840)) base (later_valid hv)).inc
theorem one_change : ∀ {l : List Chg} {a o : Int}, zvFrom a o l = true → ∀ t1 t2 t3 : Int, t1 ≤ t2 → t2 ≤ t3 → t3 - t1 < 2880 → offAt l o t2 = offAt l o t1 ∨ offAt l o t3 = offAt l o t2 := by
  intro l
  induction l with
  | nil => intro a o _ t1 t2 t3 _ _ _; exact .inl rfl
  | cons c cs ih =>
    intro a o h t1 t2 t3 h1 h2 h3
    unfold zvFrom at h
    simp only [Bool.and_eq_true, decide_eq_true_eq] at h
    obtain ⟨hb, h⟩ := h
    have hlat : ∀ t, t < c.f0 + 2880 → offAt cs c.f1 t = c.f1 := by
      intro t ht
      cases cs with
      | nil => rfl
      | cons d ds =>
        unfold zvFrom at h
        simp only [Bool.and_eq_true, decide_eq_true_eq] at h
        unfold offAt
        rw [if_neg (by omega)]
    unfold offAt
    by_cases c1 : c.f0 ≤ t1
    · rw [if_pos c1, if_pos (by omega), if_pos (by omega)]
      exact ih h t1 t2 t3 h1 h2 h3
    · rw [if_neg c1]
      by_cases c2 : c.f0 ≤ t2
      · rw [if_pos c2, if_pos (by omega)]
        refine .inr ?_
        rw [hlat t2 (by omega), hlat t3 (by omega)]
      · rw [if_neg c2]
        exact .inl rfl
theorem instR_two {base : Int} {l : List Chg} (hv : zvalid base l = true) (cl : Int) : (instR base l cl).length ≤ 2 := by
  apply Classical.byContradiction
  intro hn
  have hi := instR_inc hv cl
  have hm := instR_mem hv cl
  generalize instR base l cl = xs at *
  rcases xs with _ | ⟨a, _ | ⟨b, _ | ⟨c, ds⟩⟩⟩
  · simp at hn
  · simp at hn
  · simp at hn
  · skip
    have ha := (hm a).1 (by simp)
    have hb := (hm b).1 (by simp)
    have hc := (hm c).1 (by simp)
    obtain ⟨q1, q2⟩ := List.pairwise_cons.1 hi
    obtain ⟨q3, q4⟩ := List.pairwise_cons.1 q2
    have k1 := q1 b (by simp)
    have k2 := q3 c (by simp)
    have o1 := off_bd hv a
    have o3 := off_bd hv c
    unfold loc at ha hb hc
    have := one_change (valid_parts hv).2.2.2 a b c (by omega) (by omega) (by omega)
    omega
theorem inst_ok (nm : ByteArray) {base : Int} {l : List Chg} {d m : Int} (hv : zvalid base l = true) (h1 : 0 ≤ d ∧ d ≤ 36524) (h2 : 0 ≤ m ∧ m ≤ 1439) : zone_Instants.f nm base l d m = some (instR base l (d * 1440 + m)) := by
  unfold zone_Instants.f instR
  rw [if_pos ⟨h1.1, h1.2, h2.1, h2.2, hv⟩]
theorem inst_bad (nm : ByteArray) {base : Int} {l : List Chg} {d m : Int} (h : ¬ (0 ≤ d ∧ d ≤ 36524 ∧ 0 ≤ m ∧ m ≤ 1439 ∧ zvalid base l = true)) : zone_Instants.f nm base l d m = some [] := by
  unfold zone_Instants.f
  rw [if_neg h]
end Go.Proofs.Ytnpceipoakclbaa.Q

namespace Go.Proofs.Ytnpceipoakclbaa.Q
open Go Go.RowKit Go.Proofs.YtnpceipoakclbaaW.PrintWords Go.Proofs.YtnpceipoakclbaaW.PrintLast Go.Proofs.YtnpceipoakclbaaW.PrintMore
set_option linter.unusedVariables false
set_option linter.unusedSimpArgs false
theorem isum_split (F : Int → Int) {fr md tt : Int} (h1 : fr ≤ md) (h2 : md ≤ tt) : isum F fr (tt - fr).toNat = isum F fr (md - fr).toNat + isum F md (tt - md).toNat := by
  rw [show (tt - fr).toNat = (md - fr).toNat + (tt - md).toNat by omega, isum_add, show fr + ((md - fr).toNat : Int) = md by omega]
theorem isum_zero {F : Int → Int} {fr tt : Int} (h : ∀ x, fr ≤ x → x < tt → F x = 0) : isum F fr (tt - fr).toNat = 0 := by
  have : isum F fr (tt - fr).toNat = isum (fun _ => 0) fr (tt - fr).toNat := isum_congr _ _ fun x h1 h2 => h x h1 (by omega)
  rw [this, isum_const]
  omega
theorem isum_window {F : Int → Int} {A a b B : Int} (h1 : A ≤ a) (h2 : a ≤ b) (h3 : b ≤ B) (hz : ∀ x, A ≤ x → x < B → (x < a ∨ b ≤ x) → F x = 0) : isum F A (B - A).toNat = isum F a (b - a).toNat := by
  rw [isum_split F h1 (by omega), isum_split F (fr := a) (md := b) h2 h3, isum_zero (fun x q1 q2 => hz x q1 (by omega) (.inl q2)), isum_zero (fr := b) (tt := B) (fun x q1 q2 => hz x (by omega) q2 (.inr q1))]
  omega
end Go.Proofs.Ytnpceipoakclbaa.Q

namespace Go.Proofs.YtnpceipoakclbaaW.PrintLast
open Go Go.RowKit Go.Proofs.YtnpceipoakclbaaW.PrintWords
section
variable {H : Type} {enc : TypeId × Value → H} {P : Program} {w : World} {spare : Nat → Bool} {held : Bool} {α : Type} {t e : TypeId}
def Opens (enc : TypeId × Value → H) (P : Program) (w : World) (spare : Nat → Bool) (held : Bool) (t : TypeId) (d : Kd α) (ok : α → Prop) : Prop :=
  ∀ (fuel : Nat) (cs : List Value) (x : DataW H × List MemPlace), DataW.trod enc P w 0 spare held fuel t cs = some x → ∃ y, d.K w y cs ∧ ok y
theorem Opens.int {k : IntKind} (ht : P.underlying t = some (.int k)) : Opens enc P w spare held t (Kd.int k) (fun x => (Lit.int k x).wf = true) := by
  intro fuel cs x h
  obtain ⟨n, rfl, _, hw⟩ := DataW.trod_int ht h
  exact ⟨n, rfl, hw⟩
theorem Opens.bool (ht : P.underlying t = some .bool) : Opens enc P w spare held t Kd.bool (fun _ => True) := by
  intro fuel cs x h
  obtain ⟨n, rfl, _⟩ := DataW.trod_bool ht h
  exact ⟨n, rfl, trivial⟩
theorem Opens.string (ht : P.underlying t = some .string) : Opens enc P w spare held t Kd.string (fun s => s.size ≤ maxLen) := by
  intro fuel cs x h
  obtain ⟨n, rfl, _, hl⟩ := DataW.trod_string ht h
  exact ⟨n, rfl, by simpa using hl⟩
theorem cut_ (cs : List Value) (o s : Nat) : cs.drop o = (cs.drop o).take s ++ cs.drop (o + s) := by
  rw [← List.drop_drop, List.take_append_drop]
theorem cut_last (cs : List Value) (o s : Nat) (h : cs.length = o + s) : cs.drop o = (cs.drop o).take s := (List.take_of_length_le (by rw [List.length_drop]; omega)).symm
theorem Opens.slice {d : Kd α} {ok : α → Prop} (ht : P.underlying t = some (.slice e)) (hsz : P.cellsOf e = d.sz) (hd : Opens enc P w spare held e d ok) :
    Opens enc P w spare held t (Kd.slice e d) (fun l => (∀ x ∈ l, ok x) ∧ l.length ≤ maxLen) := by
  intro fuel cs x hx
  rcases Go.Deep.open_slice ht hx with ⟨rfl, _⟩ | ⟨a, len, cap, m, n, D, Pl, rfl, hb, hl, hm, hmm, _, hel⟩
  · exact ⟨[], ⟨none, 0, rfl, Nat.le_refl _, Kd.C_nil d w⟩, by simp, by simp⟩
  · have hlm : len ≤ m := by rw [hmm]; split <;> omega
    have key : ∀ n', n' ≤ len → ∃ l : List α, l.length = n' ∧ ∀ i y, l[i]? = some y → (∃ c, c.length = d.sz ∧ d.K w y c ∧ ∀ j u, c[j]? = some u → w.cell? (a.add (i * d.sz + j)) = some u) ∧ ok y := by
      intro n'
      induction n' with
      | zero => exact fun _ => ⟨[], rfl, fun i y h => by simp at h⟩
      | succ n' ih =>
        intro hn
        obtain ⟨l, hll, hle⟩ := ih (by omega)
        obtain ⟨cs', h1, h2⟩ := hel n' (by omega)
        obtain ⟨y, hK, hok⟩ := hd _ _ _ h2
        obtain ⟨_, hcl, hcell⟩ := World.cells?_some h1
        refine ⟨l ++ [y], by rw [List.length_append, hll]; rfl, fun i z hz => ?_⟩
        rcases Nat.lt_or_ge i l.length with hi | hi
        · exact hle i z (by rwa [List.getElem?_append_left hi] at hz)
        · have hi2 : i = n' := by
            have := (List.getElem?_eq_some_iff.1 hz).1
            rw [List.length_append, List.length_singleton] at this
            omega
          subst hi2
          have hzy : y = z := by
            rw [List.getElem?_append_right (by omega), hll, Nat.sub_self] at hz
            simpa using hz
          subst hzy
          refine ⟨⟨cs', by rw [hcl, hsz], hK, fun j u hu => ?_⟩, hok⟩
          have hj : j < cs'.length := (List.getElem?_eq_some_iff.1 hu).1
          have := hcell j (by rw [← hcl]; exact hj)
          rw [Go.Deep.add_add, hsz] at this
          rw [this, hu]
    obtain ⟨l, hll, hle⟩ := key len (Nat.le_refl _)
    refine ⟨l, ⟨some a, cap, by rw [hll], by omega, rfl, by rw [hll]; have := hm; unfold maxLen at this; omega, fun _ => ⟨a, rfl, fun j p hp => (hle j p hp).1⟩⟩, fun y hy => ?_, by rw [hll]; omega⟩
    obtain ⟨i, hi⟩ := List.getElem?_of_mem hy
    exact (hle i y hi).2
theorem open_rec {fs : Array Field} {d : Kd α} {ok : α → Prop} {r : Reach} {b0 : Nat} {v : Value} {dd : DataW H} {p : List MemPlace} (ht : P.underlying t = some (.struct fs)) (hd : Opens enc P w spare held t d ok)
    (hv : Value.okWide P w r b0 t v) (h : DataW.Trod enc P w 0 spare held t v dd p) : ∃ (cs : List Value) (y : α), v = .agg cs.toArray ∧ d.K w y cs ∧ ok y := by
  obtain ⟨cs, rfl, _⟩ := Go.WideShapes.okWide_struct ht hv
  obtain ⟨fuel, hf⟩ := h
  obtain ⟨y, hK, hok⟩ := hd _ _ _ hf
  exact ⟨cs.toList, y, by simp, by simpa [Value.cells] using hK, hok⟩
end
end Go.Proofs.YtnpceipoakclbaaW.PrintLast

namespace Go.Proofs.Ytnpceipoakclbaa.Q
open Go Go.RowKit Go.Proofs.YtnpceipoakclbaaW.PrintWords Go.Proofs.YtnpceipoakclbaaW.PrintLast
def ok75 (x : S75) : Prop := ((Lit.int .i64 x.f0).wf = true) ∧ ((Lit.int .i64 x.f1).wf = true)
theorem opens75 {H : Type} {enc : TypeId × Value → H} {w : World} {spare : Nat → Bool} {held : Bool} : Opens enc Try.prog w spare held 75 k75 ok75 := by
  intro fuel cs x h
  obtain ⟨xs, n, _, _, hl, hlen, hf⟩ := DataW.trod_struct Try.underlying75 h
  have hl : cs.length = 2 := hl.trans (by kernel_rfl)
  have hlen : xs.length = 2 := hlen
  match xs, hlen with
  | [x0, x1], _ =>
    have c0 : Try.prog.cellsOf 3 = 1 := by kernel_rfl
    have h0 : DataW.trod enc Try.prog w 0 spare held n 3 ((cs.drop 0).take 1) = some x0 := by
      have q : DataW.trod enc Try.prog w 0 spare held n 3 ((cs.drop 0).take (Try.prog.cellsOf 3)) = some x0 := hf 0 _ rfl
      rw [c0] at q
      exact q
    obtain ⟨y0, K0, g0⟩ := (Opens.int Try.underlying3) _ _ _ h0
    have c1 : Try.prog.cellsOf 3 = 1 := by kernel_rfl
    have h1 : DataW.trod enc Try.prog w 0 spare held n 3 ((cs.drop 1).take 1) = some x1 := by
      have q : DataW.trod enc Try.prog w 0 spare held n 3 ((cs.drop 1).take (Try.prog.cellsOf 3)) = some x1 := hf 1 _ rfl
      rw [c1] at q
      exact q
    obtain ⟨y1, K1, g1⟩ := (Opens.int Try.underlying3) _ _ _ h1
    have el := cut_last cs 1 1 (by rw [hl])
    exact ⟨⟨y0, y1⟩, ⟨_, _, (cut_ cs 0 1), K0, (by rw [el]; exact K1)⟩, g0, g1⟩
def ok24 (x : S24) : Prop := (x.f0.size ≤ maxLen) ∧ ((Lit.int .i64 x.f1).wf = true) ∧ ((∀ y ∈ x.f2, ok75 y) ∧ x.f2.length ≤ maxLen)
theorem opens24 {H : Type} {enc : TypeId × Value → H} {w : World} {spare : Nat → Bool} {held : Bool} : Opens enc Try.prog w spare held 24 k24 ok24 := by
  intro fuel cs x h
  obtain ⟨xs, n, _, _, hl, hlen, hf⟩ := DataW.trod_struct Try.underlying24 h
  have hl : cs.length = 3 := hl.trans (by kernel_rfl)
  have hlen : xs.length = 3 := hlen
  match xs, hlen with
  | [x0, x1, x2], _ =>
    have c0 : Try.prog.cellsOf 9 = 1 := by kernel_rfl
    have h0 : DataW.trod enc Try.prog w 0 spare held n 9 ((cs.drop 0).take 1) = some x0 := by
      have q : DataW.trod enc Try.prog w 0 spare held n 9 ((cs.drop 0).take (Try.prog.cellsOf 9)) = some x0 := hf 0 _ rfl
      rw [c0] at q
      exact q
    obtain ⟨y0, K0, g0⟩ := (Opens.string Try.underlying9) _ _ _ h0
    have c1 : Try.prog.cellsOf 3 = 1 := by kernel_rfl
    have h1 : DataW.trod enc Try.prog w 0 spare held n 3 ((cs.drop 1).take 1) = some x1 := by
      have q : DataW.trod enc Try.prog w 0 spare held n 3 ((cs.drop 1).take (Try.prog.cellsOf 3)) = some x1 := hf 1 _ rfl
      rw [c1] at q
      exact q
    obtain ⟨y1, K1, g1⟩ := (Opens.int Try.underlying3) _ _ _ h1
    have c2 : Try.prog.cellsOf 22 = 1 := by kernel_rfl
    have h2 : DataW.trod enc Try.prog w 0 spare held n 22 ((cs.drop 2).take 1) = some x2 := by
      have q : DataW.trod enc Try.prog w 0 spare held n 22 ((cs.drop 2).take (Try.prog.cellsOf 22)) = some x2 := hf 2 _ rfl
      rw [c2] at q
      exact q
    obtain ⟨y2, K2, g2⟩ := (Opens.slice Try.underlying22 (by kernel_rfl) opens75) _ _ _ h2
    have el := cut_last cs 2 1 (by rw [hl])
    exact ⟨⟨y0, y1, y2⟩, ⟨_, _, (cut_ cs 0 1), K0, ⟨_, _, (cut_ cs 1 1), K1, (by rw [el]; exact K2)⟩⟩, g0, g1, g2⟩
theorem k24_openR {w : World} {x : S24} {cs : List Value} (h : k24.K w x cs) : ∃ A2 c2, cs = [.string x.f0, .int .i64 x.f1, .slice A2 x.f2.length c2] ∧ x.f2.length ≤ c2 ∧ Kd.C k75 w A2 x.f2.length x.f2 := by
  have q := k24_open h
  exact q
def ok28 (x : S28) : Prop := ((Lit.int .i64 x.f0).wf = true) ∧ ((Lit.int .i64 x.f1).wf = true)
theorem opens28 {H : Type} {enc : TypeId × Value → H} {w : World} {spare : Nat → Bool} {held : Bool} : Opens enc Try.prog w spare held 28 k28 ok28 := by
  intro fuel cs x h
  obtain ⟨xs, n, _, _, hl, hlen, hf⟩ := DataW.trod_struct Try.underlying28 h
  have hl : cs.length = 2 := hl.trans (by kernel_rfl)
  have hlen : xs.length = 2 := hlen
  match xs, hlen with
  | [x0, x1], _ =>
    have c0 : Try.prog.cellsOf 3 = 1 := by kernel_rfl
    have h0 : DataW.trod enc Try.prog w 0 spare held n 3 ((cs.drop 0).take 1) = some x0 := by
      have q : DataW.trod enc Try.prog w 0 spare held n 3 ((cs.drop 0).take (Try.prog.cellsOf 3)) = some x0 := hf 0 _ rfl
      rw [c0] at q
      exact q
    obtain ⟨y0, K0, g0⟩ := (Opens.int Try.underlying3) _ _ _ h0
    have c1 : Try.prog.cellsOf 3 = 1 := by kernel_rfl
    have h1 : DataW.trod enc Try.prog w 0 spare held n 3 ((cs.drop 1).take 1) = some x1 := by
      have q : DataW.trod enc Try.prog w 0 spare held n 3 ((cs.drop 1).take (Try.prog.cellsOf 3)) = some x1 := hf 1 _ rfl
      rw [c1] at q
      exact q
    obtain ⟨y1, K1, g1⟩ := (Opens.int Try.underlying3) _ _ _ h1
    have el := cut_last cs 1 1 (by rw [hl])
    exact ⟨⟨y0, y1⟩, ⟨_, _, (cut_ cs 0 1), K0, (by rw [el]; exact K1)⟩, g0, g1⟩
theorem k28_openR {w : World} {x : S28} {cs : List Value} (h : k28.K w x cs) : cs = [.int .i64 x.f0, .int .i64 x.f1] := by
  have q := k28_open h
  exact q
end Go.Proofs.Ytnpceipoakclbaa.Q

namespace Go.Proofs.Ytnpceipoakclbaa.Q
open Go Go.RowKit Go.Proofs.YtnpceipoakclbaaW.PrintWords Go.Proofs.YtnpceipoakclbaaW.PrintLast Go.Proofs.YtnpceipoakclbaaW.PrintMore
set_option linter.unusedVariables false
set_option linter.unusedSimpArgs false
theorem ints_self (L : List Int) (hl : L.length ≤ 1000000) : ∀ k, L.length < k → wageofficeref03_Ints.f k L L = some true := by
  intro k hk
  unfold wageofficeref03_Ints.f
  rw [if_pos rfl]
  have key : ∀ (d i : Nat), L.length - i = d → i ≤ L.length → ∀ k, d < k → wageofficeref03_Ints.l0 k L L (i : Int) = some true := by
    intro d
    induction d with
    | zero =>
      intro i h1 h2 k hk
      obtain ⟨k, rfl⟩ : ∃ m, k = m + 1 := ⟨k - 1, by omega⟩
      simp only [wageofficeref03_Ints.l0]
      rw [if_neg (by omega)]
    | succ d ih =>
      intro i h1 h2 k hk
      obtain ⟨k, rfl⟩ : ∃ m, k = m + 1 := ⟨k - 1, by omega⟩
      have e4 : wrap64 ((i : Int) + 1) = ((i + 1 : Nat) : Int) := by rw [w64 (by omega) (by omega)]; rfl
      simp only [wageofficeref03_Ints.l0]
      rw [if_pos (by omega), if_pos (by omega), if_pos (by omega), if_pos trivial, e4]
      exact ih (i + 1) (by omega) (by omega) k (by omega)
  exact key L.length 0 rfl (Nat.zero_le _) k hk
theorem rday (d : Int) : wageofficeref03_Day.f d = some (decide (0 ≤ d ∧ d ≤ 36524)) := by
  unfold wageofficeref03_Day.f
  by_cases h : d ≥ 0 <;> simp [h]
theorem rinst (t : Int) : wageofficeref03_Instant.f t = some (decide (0 ≤ t ∧ t ≤ 52595999)) := by
  unfold wageofficeref03_Instant.f
  by_cases h : t ≥ 0 <;> simp [h]
theorem rstretch (a c : Int) : wageofficeref03_Stretch.f a c = some (decide (0 ≤ a ∧ a ≤ c ∧ c ≤ 52596000)) := by
  unfold wageofficeref03_Stretch.f
  by_cases h : a ≥ 0 <;> by_cases h2 : a ≤ c <;> simp [h, h2]
theorem rLocal_f (nm : ByteArray) (base : Int) (l : List Chg) (t : Int) {k : Nat} (hk : 90 ≤ k) : wageofficeref03_Local.f k nm base l t = zone_Local.f k nm base l t := by
  obtain ⟨k, rfl⟩ : ∃ m, k = m + 1 := ⟨k - 1, by omega⟩
  unfold wageofficeref03_Local.f wageofficeref03_Valid.f
  simp only [Option.bind_some]
  by_cases h : 0 ≤ t ∧ t ≤ 52595999 ∧ zvalid base l = true
  · obtain ⟨h1, h2, hv⟩ := h
    rw [if_pos hv, rinst, decide_eq_true ⟨h1, h2⟩]
    simp only [Option.bind_some, wageofficeref03_Local.j0, Bool.not_true, Bool.false_eq_true, if_false]
    rw [rlocal_f nm hv (by omega) (by omega)]
    simp only [Option.bind_some]
    rw [rday]
    simp only [Option.bind_some, decide_eq_true_eq]
    by_cases hd : 0 ≤ loc base l t / 1440 ∧ loc base l t / 1440 ≤ 36524
    · rw [if_pos hd, local_ok nm hk h1 h2 hv hd]
    · rw [if_neg hd, local_date nm hk h1 h2 hv hd]
  · rw [local_arg nm hk h]
    cases hv : zvalid base l with
    | false =>
      rw [if_neg (by simp)]
      simp only [wageofficeref03_Local.j0, if_true]
    | true =>
      have hi : ¬ (0 ≤ t ∧ t ≤ 52595999) := fun hh => h ⟨hh.1, hh.2, hv⟩
      rw [if_pos rfl, rinst, decide_eq_false hi]
      simp only [Option.bind_some, wageofficeref03_Local.j0, Bool.not_false, if_true]
theorem rOffset_f (nm : ByteArray) (base : Int) (l : List Chg) (t : Int) {k : Nat} (hk : 90 ≤ k) : wageofficeref03_Offset.f k nm base l t = zone_Offset.f k nm base l t := by
  rw [offset_f nm base l t k hk]
  unfold wageofficeref03_Offset.f wageofficeref03_Valid.f
  simp only [Option.bind_some]
  cases hv : zvalid base l with
  | false =>
    rw [if_neg (by simp)]
    unfold offsetR
    simp [hv]
  | true =>
    rw [if_pos rfl]
    have h0 := roffset_l nm base t l (valid_len hv) l.length 0 base rfl (by omega) k (by have := valid_len hv; omega)
    rw [List.drop_zero] at h0
    have h1 : wageofficeref03_offset.f k nm base l t = some (offAt l base t) := h0
    rw [h1]
    have h2 := offset_ok nm (base := base) (l := l) t (k := 90) (Nat.le_refl _) hv
    rw [offset_f nm base l t 90 (Nat.le_refl _)] at h2
    rw [← h2]
    rfl
theorem rWindow_l (nm : ByteArray) {base : Int} {l : List Chg} (hv : zvalid base l = true) (f t tt : Int) (hf : 0 ≤ f ∧ f ≤ 1440 ∧ 0 ≤ t ∧ t ≤ 1440) : ∀ (d : Nat) (fr n : Int), (tt - fr).toNat = d → 0 ≤ fr → fr ≤ tt → tt ≤ 52596000 → 0 ≤ n → n ≤ fr → ∀ k, d + 90 < k → wageofficeref03_Window.l0 k tt n fr nm base l f t = some (n + winV base l fr tt f t, 0) := by
  intro d
  induction d with
  | zero =>
    intro fr n h1 h2 h3 h4 h5 h6 k hk
    obtain ⟨k, rfl⟩ : ∃ m, k = m + 1 := ⟨k - 1, by omega⟩
    simp only [wageofficeref03_Window.l0]
    have := winV_bd base l f t (fr := fr) (tt := tt) h3
    rw [if_neg (by omega), show winV base l fr tt f t = 0 by omega, Int.add_zero]
  | succ d ih =>
    intro fr n h1 h2 h3 h4 h5 h6 k hk
    obtain ⟨k, rfl⟩ : ∃ m, k = m + 1 := ⟨k - 1, by omega⟩
    have hadd := winV_add base l f t (fr := fr) (md := fr + 1) (tt := tt) (by omega) (by omega)
    have e1 : wrap64 (n + 1) = n + 1 := w64 (by omega) (by omega)
    have e2 : wrap64 (fr + 1) = fr + 1 := w64 (by omega) (by omega)
    have hone : wageofficeref03_In.f f t (loc base l fr % 1440) = some (decide (winV base l fr (fr + 1) f t = 1)) ∧ (winV base l fr (fr + 1) f t = 1 ∨ winV base l fr (fr + 1) f t = 0) := by
      have hc : ∀ lo hi, winC base l lo hi fr (fr + 1) = ind (inWin lo hi (loc base l fr)) := by
        intro lo hi
        unfold winC
        rw [show (fr + 1 - fr).toNat = 1 by omega]
        simp [isum]
      unfold wageofficeref03_In.f winV
      by_cases c : f > t
      · rw [if_pos c, if_pos c, hc]
        by_cases q : inWin t f (loc base l fr)
        · rw [ind_yes q]
          unfold inWin at q
          rw [if_neg (by omega), decide_eq_false (show ¬ (loc base l fr % 1440 < t) by omega)]
          exact ⟨by rw [decide_eq_false (by omega)], .inr (by omega)⟩
        · rw [ind_no q]
          unfold inWin at q
          by_cases c1 : loc base l fr % 1440 ≥ f
          · rw [if_pos c1]
            exact ⟨by rw [decide_eq_true (by omega)], .inl (by omega)⟩
          · rw [if_neg c1, decide_eq_true (show loc base l fr % 1440 < t by omega)]
            exact ⟨by rw [decide_eq_true (by omega)], .inl (by omega)⟩
      · rw [if_neg c, if_neg c, hc]
        by_cases q : inWin f t (loc base l fr)
        · rw [ind_yes q]
          unfold inWin at q
          rw [if_pos q.1, decide_eq_true q.2]
          exact ⟨rfl, .inl rfl⟩
        · rw [ind_no q]
          unfold inWin at q
          by_cases c1 : f ≤ loc base l fr % 1440
          · rw [if_pos c1, decide_eq_false (show ¬ (loc base l fr % 1440 < t) by omega)]
            exact ⟨rfl, .inr rfl⟩
          · rw [if_neg c1]
            exact ⟨rfl, .inr rfl⟩
    simp only [wageofficeref03_Window.l0]
    rw [if_pos (by omega), rlocal_f nm hv (by omega) (by omega)]
    simp only [Option.bind_some]
    rw [hone.1]
    simp only [Option.bind_some, decide_eq_true_eq, e1, e2]
    rcases hone.2 with h | h
    · rw [if_pos h, ih (fr + 1) (n + 1) (by omega) (by omega) (by omega) h4 (by omega) (by omega) k (by omega)]
      congr 2
      omega
    · rw [if_neg (by omega), ih (fr + 1) n (by omega) (by omega) (by omega) h4 (by omega) (by omega) k (by omega)]
      congr 2
      omega
theorem rWindow_f (nm : ByteArray) (base : Int) (l : List Chg) (fr tt f t : Int) {k : Nat} (hk : 50000 ≤ k) : wageofficeref03_Window.f k nm base l fr tt f t = zone_Window.f nm base l fr tt f t := by
  obtain ⟨k, rfl⟩ : ∃ m, k = m + 1 := ⟨k - 1, by omega⟩
  have hse : stretchE base l fr tt = if fr < 0 ∨ tt < fr ∨ 52596000 < tt ∨ zvalid base l = false then 1 else if 44640 < tt - fr then 2 else 0 := rfl
  have hfr : wageofficeref03_Frame.f f t = some (decide (0 ≤ f ∧ f ≤ 1440 ∧ 0 ≤ t ∧ t ≤ 1440)) := by
    unfold wageofficeref03_Frame.f
    by_cases h1 : f ≥ 0 <;> by_cases h2 : f ≤ 1440 <;> by_cases h3 : t ≥ 0 <;> simp [h1, h2, h3]
  unfold wageofficeref03_Window.f wageofficeref03_Valid.f
  simp only [Option.bind_some]
  by_cases hf : 0 ≤ f ∧ f ≤ 1440 ∧ 0 ≤ t ∧ t ≤ 1440
  · rw [hfr, decide_eq_true hf]
    cases hv : zvalid base l with
    | false =>
      rw [if_pos (.inr (.inr (.inr hv)))] at hse
      rw [if_neg (by simp)]
      unfold zone_Window.f
      rw [if_pos hf, hse]
      simp [wageofficeref03_Window.j0]
    | true =>
      rw [if_pos rfl, rstretch]
      by_cases hst : 0 ≤ fr ∧ fr ≤ tt ∧ tt ≤ 52596000
      · rw [decide_eq_true hst]
        rw [if_neg (fun h => by rcases h with h | h | h | h; omega; omega; omega; rw [hv] at h; cases h)] at hse
        simp only [Option.bind_some, if_true, wageofficeref03_Window.j0, Bool.not_true, Bool.false_eq_true, if_false]
        rw [w64 (x := tt - fr) (by omega) (by omega)]
        by_cases h5 : 44640 < tt - fr
        · rw [if_pos h5] at hse
          rw [if_pos (by omega)]
          unfold zone_Window.f
          rw [if_pos hf, hse]
          rfl
        · rw [if_neg h5] at hse
          rw [if_neg (by omega), rWindow_l nm hv f t tt hf _ fr 0 rfl hst.1 hst.2.1 hst.2.2 (by omega) (by omega) k (by omega), win_ok nm hse hf, Int.zero_add]
      · rw [decide_eq_false hst]
        rw [if_pos (by omega)] at hse
        unfold zone_Window.f
        rw [if_pos hf, hse]
        simp [wageofficeref03_Window.j0]
  · have hz : zone_Window.f nm base l fr tt f t = some (0, 1) := by
      unfold zone_Window.f
      rw [if_neg hf]
    rw [hz, hfr, decide_eq_false hf, rstretch]
    cases zvalid base l with
    | false => simp [wageofficeref03_Window.j0]
    | true => cases decide (0 ≤ fr ∧ fr ≤ tt ∧ tt ≤ 52596000) <;> simp [wageofficeref03_Window.j0]
def rins (P : Int → Bool) : Nat → Int → List Int
  | 0, _ => []
  | n + 1, t => if P t = true then t :: rins P n (t + 1) else rins P n (t + 1)
theorem rins_mem (P : Int → Bool) (x : Int) : ∀ (n : Nat) (t : Int), x ∈ rins P n t ↔ (t ≤ x ∧ x < t + n ∧ P x = true) := by
  intro n
  induction n with
  | zero => intro t; simp [rins]; omega
  | succ n ih =>
    intro t
    unfold rins
    by_cases c : P t = true
    · rw [if_pos c, List.mem_cons, ih]
      constructor
      · rintro (rfl | ⟨h1, h2, h3⟩)
        · exact ⟨by omega, by omega, c⟩
        · exact ⟨by omega, by omega, h3⟩
      · rintro ⟨h1, h2, h3⟩
        by_cases e : x = t
        · exact .inl e
        · exact .inr ⟨by omega, by omega, h3⟩
    · rw [if_neg c, ih]
      constructor
      · rintro ⟨h1, h2, h3⟩
        exact ⟨by omega, by omega, h3⟩
      · rintro ⟨h1, h2, h3⟩
        have : x ≠ t := fun h => by subst h; exact c h3
        exact ⟨by omega, by omega, h3⟩
theorem rins_inc (P : Int → Bool) : ∀ (n : Nat) (t : Int), (rins P n t).Pairwise (fun a b => a < b) := by
  intro n
  induction n with
  | zero => intro t; exact List.Pairwise.nil
  | succ n ih =>
    intro t
    unfold rins
    by_cases c : P t = true
    · rw [if_pos c]
      exact List.pairwise_cons.2 ⟨fun x hx => by have := (rins_mem P x n (t + 1)).1 hx; omega, ih _⟩
    · rw [if_neg c]
      exact ih _
theorem int_ext : ∀ {A B : List Int}, A.Pairwise (fun a b => a < b) → B.Pairwise (fun a b => a < b) → (∀ p, p ∈ A ↔ p ∈ B) → A = B := by
  intro A
  induction A with
  | nil =>
    intro B _ _ h
    cases B with
    | nil => rfl
    | cons b bs => exact absurd ((h b).2 (by simp)) (by simp)
  | cons a ss ih =>
    intro B hA hB h
    cases B with
    | nil => exact absurd ((h a).1 (by simp)) (by simp)
    | cons b bs =>
      obtain ⟨a1, a2⟩ := List.pairwise_cons.1 hA
      obtain ⟨b1, b2⟩ := List.pairwise_cons.1 hB
      have hab : a = b := by
        rcases List.mem_cons.1 ((h a).1 (by simp)) with e | e
        · exact e
        · rcases List.mem_cons.1 ((h b).2 (by simp)) with e2 | e2
          · exact e2.symm
          · have := b1 a e
            have := a1 b e2
            omega
      subst hab
      rw [ih a2 b2 (fun p => ⟨fun hp => by
        rcases List.mem_cons.1 ((h p).1 (by simp [hp])) with e | e
        · have := a1 p hp; omega
        · exact e, fun hp => by
        rcases List.mem_cons.1 ((h p).2 (by simp [hp])) with e | e
        · have := b1 p hp; omega
        · exact e⟩)]
theorem rInst_l (nm : ByteArray) {base : Int} {l : List Chg} (hv : zvalid base l = true) {d m : Int} (hd : 0 ≤ d ∧ d ≤ 36524) (hm : 0 ≤ m ∧ m ≤ 1439) : ∀ (n : Nat) (t : Int) (out : List Int), (d * 1440 + m + 841 - t).toNat = n → d * 1440 + m - 840 ≤ t → out.length + n ≤ 100000 → ∀ k, n + 90 < k →
    wageofficeref03_Instants.l0 k d m out t nm base l = some (out ++ rins (fun t => decide (0 ≤ t ∧ t ≤ 52595999 ∧ loc base l t = d * 1440 + m)) n t) := by
  have e1 : wrap64 (wrap64 (wrap64 (d * 1440) + m) + 840) = d * 1440 + m + 840 := by
    rw [w64 (x := d * 1440) (by omega) (by omega), w64 (x := d * 1440 + m) (by omega) (by omega), w64 (by omega) (by omega)]
  intro n
  induction n with
  | zero =>
    intro t out h1 h2 h3 k hk
    obtain ⟨k, rfl⟩ : ∃ m, k = m + 1 := ⟨k - 1, by omega⟩
    simp only [wageofficeref03_Instants.l0]
    rw [e1, if_neg (by omega)]
    simp [rins]
  | succ n ih =>
    intro t out h1 h2 h3 k hk
    obtain ⟨k, rfl⟩ : ∃ m, k = m + 1 := ⟨k - 1, by omega⟩
    have e2 : wrap64 (t + 1) = t + 1 := w64 (by omega) (by omega)
    simp only [wageofficeref03_Instants.l0]
    rw [e1, if_pos (by omega), rlocal_f' nm hv (by omega) (by omega)]
    simp only [Option.bind_some]
    rw [rinst]
    simp only [Option.bind_some, decide_eq_true_eq, e2]
    unfold rins
    by_cases c : 0 ≤ t ∧ t ≤ 52595999 ∧ loc base l t = d * 1440 + m
    · rw [if_pos ⟨c.1, c.2.1⟩, if_neg (show ¬ (loc base l t < 0) by omega), if_pos (show loc base l t / 1440 = d by omega), if_pos (show loc base l t % 1440 = m by omega), if_pos (by omega), if_pos (decide_eq_true c), ih (t + 1) _ (by omega) (by omega) (by simp; omega) k (by omega)]
      simp
    · rw [if_neg (c := decide _ = true) (by simpa using c)]
      have fin := ih (t + 1) out (by omega) (by omega) (by omega) k (by omega)
      by_cases c1 : 0 ≤ t ∧ t ≤ 52595999
      · rw [if_pos c1]
        by_cases c2 : loc base l t < 0
        · rw [if_pos c2, if_neg (by show ¬ ((-1 : Int) = d); omega)]
          exact fin
        · rw [if_neg c2]
          by_cases c3 : loc base l t / 1440 = d
          · rw [if_pos c3, if_neg (by omega)]
            exact fin
          · rw [if_neg c3]
            exact fin
      · rw [if_neg c1]
        exact fin
theorem rInstants_f (nm : ByteArray) (base : Int) (l : List Chg) (d m : Int) {k : Nat} (hk : 50000 ≤ k) : wageofficeref03_Instants.f k nm base l d m = zone_Instants.f nm base l d m := by
  obtain ⟨k, rfl⟩ : ∃ m, k = m + 1 := ⟨k - 1, by omega⟩
  unfold wageofficeref03_Instants.f wageofficeref03_Valid.f
  simp only [Option.bind_some]
  by_cases h : 0 ≤ d ∧ d ≤ 36524 ∧ 0 ≤ m ∧ m ≤ 1439 ∧ zvalid base l = true
  · obtain ⟨h1, h2, h3, h4, hv⟩ := h
    rw [if_pos hv, rday, decide_eq_true ⟨h1, h2⟩]
    simp only [Option.bind_some, if_true, wageofficeref03_Instants.j0]
    have e0 : wrap64 (wrap64 (wrap64 (d * 1440) + m) - 840) = d * 1440 + m - 840 := by
      rw [w64 (x := d * 1440) (by omega) (by omega), w64 (x := d * 1440 + m) (by omega) (by omega), w64 (by omega) (by omega)]
    rw [if_neg (by omega), if_neg (by simp; omega), e0, rInst_l nm hv ⟨h1, h2⟩ ⟨h3, h4⟩ _ (d * 1440 + m - 840) [] rfl (by omega) (by simp; omega) k (by omega), inst_ok nm hv ⟨h1, h2⟩ ⟨h3, h4⟩, List.nil_append]
    congr 1
    refine int_ext (rins_inc _ _ _) (instR_inc hv _) (fun x => ?_)
    rw [rins_mem, instR_mem hv]
    simp only [decide_eq_true_eq]
    constructor
    · rintro ⟨_, _, q⟩
      exact q
    · intro q
      have := loc_bd hv (t := x)
      exact ⟨by omega, by omega, q⟩
  · rw [inst_bad nm h]
    cases hv : zvalid base l with
    | false => simp [wageofficeref03_Instants.j0]
    | true =>
      rw [if_pos rfl, rday]
      by_cases c1 : 0 ≤ d ∧ d ≤ 36524
      · rw [decide_eq_true c1]
        simp only [Option.bind_some, if_true, wageofficeref03_Instants.j0]
        by_cases c2 : m < 0
        · rw [if_pos c2]
        · rw [if_neg c2, if_pos (by simp; apply Classical.byContradiction; intro hn; exact h ⟨c1.1, c1.2, by omega, by omega, hv⟩)]
      · rw [decide_eq_false c1]
        simp [wageofficeref03_Instants.j0]
theorem rLen_l (nm : ByteArray) {base : Int} {l : List Chg} (hv : zvalid base l = true) {d : Int} (hd : 0 ≤ d ∧ d ≤ 36524) : ∀ (n : Nat) (t s : Int), (d * 1440 + 2280 - t).toNat = n → d * 1440 - 840 ≤ t → 0 ≤ s → s ≤ 100000 - n → ∀ k, n + 90 < k →
    wageofficeref03_Length.l0 k d s t nm base l = some (s + isum (fun t => ind (0 ≤ t ∧ t ≤ 52595999 ∧ d * 1440 ≤ loc base l t ∧ loc base l t < (d + 1) * 1440)) t n) := by
  have e1 : wrap64 (wrap64 (wrap64 (d * 1440) + 1440) + 840) = d * 1440 + 2280 := by
    rw [w64 (x := d * 1440) (by omega) (by omega), w64 (x := d * 1440 + 1440) (by omega) (by omega), w64 (by omega) (by omega)]
    omega
  intro n
  induction n with
  | zero =>
    intro t s h1 h2 h3 h4 k hk
    obtain ⟨k, rfl⟩ : ∃ m, k = m + 1 := ⟨k - 1, by omega⟩
    simp only [wageofficeref03_Length.l0]
    rw [e1, if_neg (by omega)]
    simp [isum]
  | succ n ih =>
    intro t s h1 h2 h3 h4 k hk
    obtain ⟨k, rfl⟩ : ∃ m, k = m + 1 := ⟨k - 1, by omega⟩
    have e2 : wrap64 (t + 1) = t + 1 := w64 (by omega) (by omega)
    have e3 : wrap64 (s + 1) = s + 1 := w64 (by omega) (by omega)
    have hi : ∀ F : Int → Int, isum F t (n + 1) = F t + isum F (t + 1) n := fun _ => rfl
    simp only [wageofficeref03_Length.l0]
    rw [e1, if_pos (by omega), rlocal_f' nm hv (by omega) (by omega)]
    simp only [Option.bind_some]
    rw [rinst]
    simp only [Option.bind_some, decide_eq_true_eq, e2, e3]
    rw [hi]
    by_cases c : 0 ≤ t ∧ t ≤ 52595999 ∧ d * 1440 ≤ loc base l t ∧ loc base l t < (d + 1) * 1440
    · rw [ind_yes c, if_pos ⟨c.1, c.2.1⟩, if_neg (show ¬ (loc base l t < 0) by omega), if_pos (show loc base l t / 1440 = d by omega), ih (t + 1) (s + 1) (by omega) (by omega) (by omega) (by omega) k (by omega)]
      congr 1
      omega
    · rw [ind_no c, Int.zero_add]
      have fin := ih (t + 1) s (by omega) (by omega) (by omega) (by omega) k (by omega)
      by_cases c1 : 0 ≤ t ∧ t ≤ 52595999
      · rw [if_pos c1]
        by_cases c2 : loc base l t < 0
        · rw [if_pos c2, if_neg (by show ¬ ((-1 : Int) = d); omega)]
          exact fin
        · rw [if_neg c2, if_neg (by show ¬ (loc base l t / 1440 = d); omega)]
          exact fin
      · rw [if_neg c1]
        exact fin
theorem rLength_f (nm : ByteArray) (base : Int) (l : List Chg) (d : Int) {k : Nat} (hk : 50000 ≤ k) : wageofficeref03_Length.f k nm base l d = zone_Length.f nm base l d := by
  obtain ⟨k, rfl⟩ : ∃ m, k = m + 1 := ⟨k - 1, by omega⟩
  unfold wageofficeref03_Length.f wageofficeref03_Valid.f zone_Length.f
  simp only [Option.bind_some]
  by_cases h : 0 ≤ d ∧ d ≤ 36524 ∧ zvalid base l = true
  · obtain ⟨h1, h2, hv⟩ := h
    rw [if_pos hv, rday, decide_eq_true ⟨h1, h2⟩, if_pos ⟨h1, h2, hv⟩]
    simp only [Option.bind_some, if_true, wageofficeref03_Length.j0, Bool.not_true, Bool.false_eq_true, if_false]
    have e0 : wrap64 (wrap64 (d * 1440) - 840) = d * 1440 - 840 := by
      rw [w64 (x := d * 1440) (by omega) (by omega), w64 (by omega) (by omega)]
    rw [e0, rLen_l nm hv ⟨h1, h2⟩ _ (d * 1440 - 840) 0 rfl (by omega) (by omega) (by omega) k (by omega), lenSum_eq hv, Int.zero_add]
    congr 1
    rw [isum_window (F := fun t => ind (0 ≤ t ∧ t ≤ 52595999 ∧ d * 1440 ≤ loc base l t ∧ loc base l t < (d + 1) * 1440)) (A := d * 1440 - 840) (a := max 0 (d * 1440 - 840)) (b := min 52596000 ((d + 1) * 1440 + 840)) (B := d * 1440 + 2280) (by omega) (by omega) (by omega) (fun x x1 x2 x3 => ind_no (by omega))]
    refine isum_congr _ _ fun x x1 x2 => ind_iff ?_
    omega
  · rw [if_neg h]
    cases hv : zvalid base l with
    | false => simp [wageofficeref03_Length.j0]
    | true =>
      have c1 : ¬ (0 ≤ d ∧ d ≤ 36524) := fun hh => h ⟨hh.1, hh.2, hv⟩
      rw [if_pos rfl, rday, decide_eq_false c1]
      simp [wageofficeref03_Length.j0]
theorem split_len (nm : ByteArray) (base : Int) (l : List Chg) (fr tt : Int) : ∃ L e, zone_Split.f nm base l fr tt = some (L, e) ∧ L.length ≤ 50000 := by
  unfold zone_Split.f
  by_cases hs : stretchE base l fr tt = 0
  · obtain ⟨g1, g2, g3, g4, hv⟩ := stretch_ok hs
    rw [if_pos hs]
    by_cases hd : inDays (splitL (psteps tt l fr base)) = true
    · rw [if_pos hd, splitL_minutes hv]
      refine ⟨_, _, rfl, ?_⟩
      have key : ∀ (F : Int → Int) (n : Nat) (t : Int) (L : List Por), (mdays F n t L).length ≤ L.length + n := by
        intro F n
        induction n with
        | zero => intro t L; simp [mdays]
        | succ n ih =>
          intro t L
          simp only [mdays]
          have h1 := ih (t + 1) (addD (F t) 1 L)
          have h2 := len_addD (F t) 1 L
          omega
      have := key (fun t => loc base l t / 1440) (tt - fr).toNat fr []
      simp only [List.length_nil] at this
      omega
    · rw [if_neg hd]
      exact ⟨_, _, rfl, by simp⟩
  · rw [if_neg hs]
    exact ⟨_, _, rfl, by simp⟩
theorem inst_len (nm : ByteArray) (base : Int) (l : List Chg) (d m : Int) : ∃ L, zone_Instants.f nm base l d m = some L ∧ L.length ≤ 2 := by
  by_cases h : 0 ≤ d ∧ d ≤ 36524 ∧ 0 ≤ m ∧ m ≤ 1439 ∧ zvalid base l = true
  · exact ⟨_, inst_ok nm h.2.2.2.2 ⟨h.1, h.2.1⟩ ⟨h.2.2.1, h.2.2.2.1⟩, instR_two h.2.2.2.2 _⟩
  · exact ⟨_, inst_bad nm h, by simp⟩
theorem ZoneMatchesReference_pure (z : S24) (u d m a b : Int) (s : S28) (okz : ok24 z) (oku : (Lit.int .i64 u).wf = true) (okd : (Lit.int .i64 d).wf = true) (okm : (Lit.int .i64 m).wf = true) (oka : (Lit.int .i64 a).wf = true) (okb : (Lit.int .i64 b).wf = true) (oks : ok28 s) : Ev (fun k => wageofficelaw03_ZoneMatchesReference.f k z.f0 z.f1 z.f2 u d m a b s.f0 s.f1) true := by
  refine ⟨60000, fun k hk => ?_⟩
  obtain ⟨k, rfl⟩ : ∃ m, k = m + 3 := ⟨k - 3, by omega⟩
  unfold wageofficelaw03_ZoneMatchesReference.f wageofficelaw03_small.f
  dsimp only
  rw [head03 (by omega)]
  simp only [Option.bind_some, decide_eq_true_eq]
  by_cases h70 : (z.f2.length : Int) ≤ 70
  · rw [if_pos h70]
    have key : wageofficelaw03_ZoneMatchesReference.j0 (k + 3) u d m a b true false z.f0 z.f1 z.f2 s.f0 s.f1 = some true := by
      simp only [wageofficelaw03_ZoneMatchesReference.j0, Bool.false_eq_true, if_false, if_true]
      rw [rLocal_f _ _ _ _ (by omega), rOffset_f _ _ _ _ (by omega), local_f _ _ _ _ _ (by omega), offset_f _ _ _ _ _ (by omega), zValid_f _ _ _ _ (by omega)]
      simp only [Option.bind_some, wageofficeref03_Valid.f, beq_self_eq_true, if_true, wageofficelaw03_ZoneMatchesReference.j1]
      obtain ⟨L, e, hL, hl⟩ := split_len z.f0 z.f1 z.f2 a b
      obtain ⟨I, hI, hi⟩ := inst_len z.f0 z.f1 z.f2 d m
      rw [split_same, rWindow_f _ _ _ _ _ _ _ (by omega), hL]
      obtain ⟨⟨n1, n2⟩, hw⟩ : ∃ r, zone_Window.f z.f0 z.f1 z.f2 a b s.f0 s.f1 = some r := ⟨_, rfl⟩
      obtain ⟨n3, hle⟩ : ∃ r, zone_Length.f z.f0 z.f1 z.f2 d = some r := ⟨_, rfl⟩
      rw [hw]
      simp only [Option.bind_some, if_true, beq_self_eq_true]
      rw [same_self L (by omega) _ (by omega)]
      simp only [Option.bind_some, if_true, wageofficelaw03_ZoneMatchesReference.j2]
      rw [rInstants_f _ _ _ _ _ (by omega), hI]
      simp only [Option.bind_some]
      rw [ints_self I (by omega) _ (by omega), rLength_f _ _ _ _ (by omega), hle]
      simp
    unfold wageofficelaw03_short.f
    by_cases h1 : wrap64 (b - a) ≤ 6000
    · rw [if_pos h1]
      simp only [Option.bind_some, Bool.not_true]
      exact key
    · rw [if_neg h1]
      by_cases h2 : wrap64 (b - a) > 44640
      · rw [decide_eq_true h2]
        simp only [Option.bind_some, Bool.not_true]
        exact key
      · rw [decide_eq_false h2]
        simp only [Option.bind_some, Bool.not_false, wageofficelaw03_ZoneMatchesReference.j0, if_true]
  · rw [if_neg h70]
    simp only [wageofficelaw03_ZoneMatchesReference.j0, if_true]
end Go.Proofs.Ytnpceipoakclbaa.Q

namespace Go.Proofs.Ytnpceipoakclbaa.zoneMatchesReference
open Go.ChangeShapes Go.WideShapes Go.ChangeAt Go.RowKit
open Go.ChangeMaps (open_string shut_string)
open Go.Proofs.YtnpceipoakclbaaW.PrintWords Go.Proofs.YtnpceipoakclbaaW.PrintLast Go.Proofs.Ytnpceipoakclbaa.Q
set_option linter.unusedVariables false
theorem own : ownKnob Try.prog.godebug = none := by kernel_rfl
theorem laidOut : laidOutB Try.prog = true := by kernel_rfl
set_option maxRecDepth 100000 in
theorem lifted (os : Os) (started : os.Started) (H : Type) (enc : TypeId × Value → H) :
    ReturnsInHanded {} Try.checked os 9 .any (Rows.zoneMatchesReferenceSpec.pre6 enc Try.prog Try.f9 Rows.zoneMatchesReferenceRow.domain false) (Rows.zoneMatchesReferenceSpec.post enc Try.prog Try.f9 false true false false) := by
  refine returnsInHanded_of_change_sized (C := Try.checked) own started (by kernel_rfl) Try.func9
    (ChangeSpec.witness6 (enc := enc) (C := Try.checked) false ⟨#[], #[.agg #[.string ByteArray.empty, .int .i64 0, .slice none 0 0], .int .i64 0, .int .i64 0, .int .i64 0, .int .i64 0, .int .i64 0, .agg #[.int .i64 0, .int .i64 0]], []⟩ 8 (by kernel_rfl) (by kernel_rfl) (by kernel_rfl) (by kernel_rfl)) ?_
  intro W base args ds gs before hval0 hW hcnd hsz0 _
  have hval : ∀ (j : Nat) t v, Try.f9.params[j]? = some t → args[j]? = some v → Value.okWide Try.prog W .any base t v := hval0
  have hW' := hW
  obtain ⟨p, q, hA0, hV, rfl, hfz, hnd⟩ := hW
  have hA : DataW.TrodAll enc Try.prog W 0 (fun _ => true) true Try.f9.params.toList args.toList ds p := hA0
  rw [Try.params9] at hA hval
  obtain ⟨v0, vs0, d0, ds0, p0, q0, hargs, rfl, rfl, h0, r0⟩ := trodAll_cons hA
  obtain ⟨v1, vs1, d1, ds1, p1, q1, rfl, rfl, rfl, h1, r1⟩ := trodAll_cons r0
  obtain ⟨v2, vs2, d2, ds2, p2, q2, rfl, rfl, rfl, h2, r2⟩ := trodAll_cons r1
  obtain ⟨v3, vs3, d3, ds3, p3, q3, rfl, rfl, rfl, h3, r3⟩ := trodAll_cons r2
  obtain ⟨v4, vs4, d4, ds4, p4, q4, rfl, rfl, rfl, h4, r4⟩ := trodAll_cons r3
  obtain ⟨v5, vs5, d5, ds5, p5, q5, rfl, rfl, rfl, h5, r5⟩ := trodAll_cons r4
  obtain ⟨v6, vs6, d6, ds6, p6, q6, rfl, rfl, rfl, h6, r6⟩ := trodAll_cons r5
  obtain ⟨rfl, rfl, rfl⟩ := trodAll_nil r6
  obtain rfl : args = #[v0, v1, v2, v3, v4, v5, v6] := by cases args; simp_all
  obtain ⟨rfl, rfl⟩ := trodVars_none hV
  have k0 := h0
  have lt0 : ∀ x ∈ p0, x.block < W.heap.size := by obtain ⟨m, hm⟩ := k0; exact DataW.trod_lt m _ _ _ hm
  obtain ⟨cs0, y0, rfl, K0, ok0⟩ := open_rec Try.underlying24 opens24 (hval 0 24 v0 rfl rfl) h0
  have K0' := k24_openR K0
  obtain ⟨A0_2, c0_2, rfl, hc0_2, hr0_2⟩ := K0'
  obtain ⟨a1, rfl, rfl, rfl, ok1⟩ := open_int Try.underlying3 (hval 1 3 v1 rfl rfl) h1
  obtain ⟨a2, rfl, rfl, rfl, ok2⟩ := open_int Try.underlying3 (hval 2 3 v2 rfl rfl) h2
  obtain ⟨a3, rfl, rfl, rfl, ok3⟩ := open_int Try.underlying3 (hval 3 3 v3 rfl rfl) h3
  obtain ⟨a4, rfl, rfl, rfl, ok4⟩ := open_int Try.underlying3 (hval 4 3 v4 rfl rfl) h4
  obtain ⟨a5, rfl, rfl, rfl, ok5⟩ := open_int Try.underlying3 (hval 5 3 v5 rfl rfl) h5
  have k6 := h6
  have lt6 : ∀ x ∈ p6, x.block < W.heap.size := by obtain ⟨m, hm⟩ := k6; exact DataW.trod_lt m _ _ _ hm
  obtain ⟨cs6, y6, rfl, K6, ok6⟩ := open_rec Try.underlying28 opens28 (hval 6 28 v6 rfl rfl) h6
  have K6' := k28_openR K6
  obtain ⟨rfl⟩ := K6'
  clear hA0 hval0 hsz0
  obtain ⟨k, hP⟩ := (ZoneMatchesReference_pure y0 a1 a2 a3 a4 a5 y6 ok0 ok1 ok2 ok3 ok4 ok5 ok6).rounds
  refine (wageofficelaw03_ZoneMatchesReference.calls k y0.f0 y0.f1 A0_2 c0_2 y0.f2 a1 a2 a3 a4 a5 y6.f0 y6.f1 true W hr0_2 hc0_2 hP).mono fun e W' ⟨he, bel0⟩ => ?_
  have bel : Below W.heap.size W W' := bel0
  subst he
  exact ⟨_, rfl, _, _, _, [], _, [], hW', trodAll_mk1 (shut_bool Try.underlying4 _), (trodAll_cons_mk (Below.trod laidOut (by kernel_rfl) (of_decide_eq_true (by kernel_rfl)) k0 bel lt0) (trodAll_cons_mk (shut_int Try.underlying3 ok1) (trodAll_cons_mk (shut_int Try.underlying3 ok2) (trodAll_cons_mk (shut_int Try.underlying3 ok3) (trodAll_cons_mk (shut_int Try.underlying3 ok4) (trodAll_cons_mk (shut_int Try.underlying3 ok5) (trodAll_cons_mk (Below.trod laidOut (by kernel_rfl) (of_decide_eq_true (by kernel_rfl)) k6 bel lt6) trodAll_mk0))))))), rfl, bel.frame _, fun h => by cases h⟩
theorem over : Rows.zoneMatchesReferenceRow.holds Try.pinned (OpenSpec.ofChange Rows.zoneMatchesReferenceSpec) :=
  OpenClaim.holds_of_wide 9 Try.f9 rfl rfl rfl rfl rfl rfl rfl ⟨rfl, rfl, rfl, rfl, rfl⟩ rfl rfl rfl rfl rfl (by kernel_rfl) Try.func9 (by kernel_rfl)
    (of_decide_eq_true (by kernel_rfl)) (by unfold Func.isWrapper; first | (rw [if_pos (by decide +kernel)]; kernel_rfl) | (rw [if_neg (by decide +kernel)]; exact ⟨rfl, rfl⟩))
    (fun os started H enc _ => lifted os started H enc)
theorem proved : Rows.ZoneMatchesReferenceSaid := over
end Go.Proofs.Ytnpceipoakclbaa.zoneMatchesReference
namespace Go.Proofs.Ytnpceipoakclbaa
theorem zoneMatchesReference_holds : Rows.ZoneMatchesReferenceSaid := zoneMatchesReference.proved
end Go.Proofs.Ytnpceipoakclbaa
