/- For every zone, instants, day, minute and window, all functions of package zone return what the reference implementation returns; conditions: none beyond the reading of the inputs (the guards are inside the law).
   The walk of the law's code and its plain law (merged by wip/tools/trim.py out of own texts and of texts that the kit's printer wrote). -/
import Derived.Test.YtnpceipoakclbaaCMat3
import Derived.Maps.AppendAt
namespace Go.Proofs.Ytnpceipoakclbaa.Q
open Go.RowKit Go.Proofs.YtnpceipoakclbaaW.PrintWords Go.Proofs.YtnpceipoakclbaaW.PrintLast Go.Proofs.YtnpceipoakclbaaW.PrintMore
set_option linter.unusedVariables false
set_option linter.unusedSimpArgs false
def rsplit (F : Int → Int) : Nat → Int → List Por → List Por × Int
  | 0, _, L => (L, 0)
  | n + 1, t, L => if 0 ≤ F t ∧ F t ≤ 36524 then rsplit F n (t + 1) (addD (F t) 1 L) else ([], 21)
def wageofficeref03_Split.f (a0_0 : ByteArray) (a0_1 : Int) (l0_2 : List (S75)) (a1 : Int) (a2 : Int) : Option ((List (S46)) × Int) :=
  some (if stretchE a0_1 l0_2 a1 a2 = 0 then rsplit (fun t => loc a0_1 l0_2 t / 1440) (a2 - a1).toNat a1 [] else ([], stretchE a0_1 l0_2 a1 a2))
theorem len_addD (d m : Int) : ∀ L : List Por, (addD d m L).length ≤ L.length + 1 := by
  intro L
  induction L with
  | nil => simp [addD]
  | cons p ps ih =>
    unfold addD
    split
    · simp
    · split
      · simp
      · simp only [List.length_cons]; omega
theorem bd_add1 {B d : Int} {L : List Por} (h : Bd B L) (hB : 0 ≤ B) : Bd (B + 1) (addD d 1 L) := by
  induction L with
  | nil => intro q hq; simp [addD] at hq; subst hq; exact ⟨by show (0 : Int) ≤ 1; omega, by show (1 : Int) ≤ _; omega⟩
  | cons p ps ih =>
    have hp := h p (by simp)
    have hps : Bd B ps := fun q hq => h q (by simp [hq])
    unfold addD
    by_cases c1 : d < p.f0
    · rw [if_pos c1]
      intro q hq
      rcases List.mem_cons.1 hq with rfl | hq
      · exact ⟨by show (0 : Int) ≤ 1; omega, by show (1 : Int) ≤ _; omega⟩
      · have := h q hq; exact ⟨this.1, by omega⟩
    · rw [if_neg c1]
      by_cases c2 : d = p.f0
      · rw [if_pos c2]
        intro q hq
        rcases List.mem_cons.1 hq with rfl | hq
        · exact ⟨by show 0 ≤ p.f1 + 1; omega, by show p.f1 + 1 ≤ _; omega⟩
        · have := hps q hq; exact ⟨this.1, by omega⟩
      · rw [if_neg c2]
        intro q hq
        rcases List.mem_cons.1 hq with rfl | hq
        · exact ⟨hp.1, by omega⟩
        · exact ih hps q hq
theorem rDay_c (d : Int) (w : World) (b : Bool) (hb : decide (0 ≤ d ∧ d ≤ 36524) = b) : Calls Try.prog 55 #[.int .i64 d] w fun e w' => e = .returned (.bool b) ∧ ∃ n, w' = w.drewN n := by
  refine (wageofficeref03_Day.calls d b w ?_).mono fun e w' h => ⟨h.1, h.2.out⟩
  unfold wageofficeref03_Day.f
  subst hb
  by_cases h : d ≥ 0 <;> simp [h]
theorem rStretch_c (a c : Int) (w : World) (b : Bool) (hb : decide (0 ≤ a ∧ a ≤ c ∧ c ≤ 52596000) = b) : Calls Try.prog 69 #[.int .i64 a, .int .i64 c] w fun e w' => e = .returned (.bool b) ∧ ∃ n, w' = w.drewN n := by
  refine (wageofficeref03_Stretch.calls a c b w ?_).mono fun e w' h => ⟨h.1, h.2.out⟩
  unfold wageofficeref03_Stretch.f
  subst hb
  by_cases h : a ≥ 0 <;> by_cases h2 : a ≤ c <;> simp [h, h2]
set_option maxRecDepth 100000 in
set_option maxHeartbeats 4000000 in
theorem wageofficeref03_Split.calls (a0_0 : ByteArray) (a0_1 : Int) (A0_2 : Option Addr) (c0_2 : Nat) (l0_2 : List (S75)) (a1 : Int) (a2 : Int) (r1 : List (S46)) (r2 : Int) (w : World) (hr0_2 : Kd.C k75 w A0_2 l0_2.length l0_2) (hc0_2 : l0_2.length ≤ c0_2) (h : wageofficeref03_Split.f a0_0 a0_1 l0_2 a1 a2 = some (r1, r2)) :
    Calls Try.prog 43 #[.agg #[.string a0_0, .int .i64 a0_1, .slice A0_2 l0_2.length c0_2], .int .i64 a1, .int .i64 a2] w fun e w' => ∃ v0_ : Value, e = .returned (.tuple #[v0_, .int .i64 r2]) ∧ Kd.R k46 46 w' w.heap.size (fun _ => True) v0_ r1 ∧ Below w.heap.size w w' := by
  unfold wageofficeref03_Split.f at h
  have h := Option.some.inj h
  have HR := Lib.hid h
  have HC := Lib.hid hr0_2
  have HL := Lib.hid hc0_2
  clear h hr0_2 hc0_2
  have hzb := heap_alloc_new w (.cells #[.string a0_0, .int .i64 a0_1, .slice A0_2 l0_2.length c0_2] 24)
  have HZB := Lib.hid hzb
  clear hzb
  have hv2 : wageofficeref03_Valid.f a0_0 a0_1 l0_2 = some (zvalid a0_1 l0_2) := rfl
  have HV2 := Lib.hid hv2
  clear hv2
  have call1 := fun (V : World) (hC : Kd.C k75 V A0_2 l0_2.length l0_2) => wageofficeref03_Valid.calls a0_0 a0_1 A0_2 c0_2 l0_2 _ V hC HL.out HV2.out
  have C1 := Lib.hid call1
  clear call1
  by_cases hs : stretchE a0_1 l0_2 a1 a2 = 0
  · obtain ⟨s1, s2, s3, s4, hv⟩ := stretch_ok hs
    rw [hv] at C1
    have HV := Lib.hid hv
    have HS := Lib.hid hs
    clear hv hs
    have st : decide (0 ≤ a1 ∧ a1 ≤ a2 ∧ a2 ≤ 52596000) = true := decide_eq_true ⟨s1, s2, s3⟩
    have ST := Lib.hid st
    clear st
    go_enter Try.func43, Try.ntmps43
    go_wp2_with fail
    refine (C1.out _ (Kd.C_alloc HC.out _)).mono ?_
    rintro e V ⟨rfl, hb⟩
    have hz := blk_below (World.alloc_heap_new w (.cells #[.string a0_0, .int .i64 a0_1, .slice A0_2 l0_2.length c0_2] 24)) hb
    have hBV := below_step (below_alloc (Below.refl w.heap.size w) (.cells #[.string a0_0, .int .i64 a0_1, .slice A0_2 l0_2.length c0_2] 24)) hb
    have HBV := Lib.hid hBV
    have HZ := Lib.hid hz
    clear hb hz hBV
    go_wp2_with fail
    refine (rStretch_c _ _ _ _ ST.out).mono ?_
    rintro e V1 ⟨rfl, nd, rfl⟩
    have h5 : ¬ 44640 < a2 - a1 := by omega
    go_wp2_with fail
    go_loopw [8, 9] (fun o i wr => ∃ (n : Nat) (L : List Por), i = .int .i64 (a1 + n) ∧ a1 + n ≤ a2 ∧ rsplit (fun t => loc a0_1 l0_2 t / 1440) ((a2 - a1).toNat - n) (a1 + n) L = (r1, r2) ∧ k46.R 46 wr w.heap.size (fun _ => True) o L ∧ Inc L ∧ L.length ≤ n ∧ Bd n L ∧ Below w.heap.size w wr ∧ wr.heap[w.heap.size]? = some (.cells #[.string a0_0, .int .i64 a0_1, .slice A0_2 l0_2.length c0_2] 24 (0, 0))) (fun o i wr => (a2 - intOf i).toNat)
    case atStart =>
      have hr := HR.out
      rw [if_pos HS.out] at hr
      exact ⟨0, [], by simp, by omega, by simpa using hr, Kd.R_nil _ _ _ _ _, List.Pairwise.nil, Nat.le_refl _, fun q hq => by simp at hq, pw_below_drewN HBV.out _, blk_drewN HZ.out _⟩
    case round =>
      obtain ⟨n, L, rfl, hn, hrs, hR, hI, hlen, hbd, hbel, hbox⟩ := hrel
      have z0 := blk_cell hbox 0
      have z1 := blk_cell hbox 1
      have z2 := blk_cell hbox 2
      simp only [List.getElem?_toArray, List.getElem?_cons_zero, List.getElem?_cons_succ] at z0 z1 z2
      have HRS := Lib.hid hrs
      have HRR := Lib.hid hR
      have HII := Lib.hid (And.intro hI (And.intro hlen (And.intro hbd (And.intro hbel hbox))))
      clear hrs hR hI hlen hbd hbel hbox
      by_cases hlt : a1 + n < a2
      · have hcut : rsplit (fun t => loc a0_1 l0_2 t / 1440) ((a2 - a1).toNat - n) (a1 + n) L = if 0 ≤ loc a0_1 l0_2 (a1 + n) / 1440 ∧ loc a0_1 l0_2 (a1 + n) / 1440 ≤ 36524 then rsplit (fun t => loc a0_1 l0_2 t / 1440) ((a2 - a1).toNat - (n + 1)) (a1 + n + 1) (addD (loc a0_1 l0_2 (a1 + n) / 1440) 1 L) else ([], 21) := by
          rw [show (a2 - a1).toNat - n = ((a2 - a1).toNat - (n + 1)) + 1 by omega]
          rfl
        have hlb := loc_bdR HV.out (a1 + n)
        have hcall := fun (W : World) (hC : Kd.C k75 W A0_2 l0_2.length l0_2) => rlocal_c a0_0 a0_1 A0_2 c0_2 l0_2 (a1 + n) W HV.out (by omega) hC HL.out
        generalize hdd : loc a0_1 l0_2 (a1 + n) / 1440 = dd at *
        generalize loc a0_1 l0_2 (a1 + n) % 1440 = mm at *
        have hd1 : -2 ≤ dd := by omega
        have hd2 : dd ≤ 40000 := by omega
        rw [HRS.out] at hcut
        have HCUT := Lib.hid hcut
        have HCL := Lib.hid hcall
        clear hcut hcall hdd hlb
        by_cases hin : 0 ≤ dd ∧ dd ≤ 36524
        · have hin2 := decide_eq_true hin
          have HIN := Lib.hid hin2
          have hnx := HCUT.out
          rw [if_pos hin] at hnx
          have HNX := Lib.hid hnx
          clear hin2 hnx hin
          go_wp2_with fail
          refine (HCL.out _ (Kd.C_below HC.out HII.out.2.2.2.1)).mono ?_
          rintro e V2 ⟨rfl, hb2⟩
          have HB2 := Lib.hid hb2
          clear hb2 z0 z1 z2
          go_wp2_with fail
          refine (rDay_c _ _ _ HIN.out).mono ?_
          rintro e V3 ⟨rfl, nd2, rfl⟩
          go_wp2_with fail
          have hrow : some w.heap.size ≠ u8.ownBlock := (let ⟨_, _, ho, _⟩ := HRR.out; own_ne ho HII.out.2.2.2.2 (by decide))
          refine (count_c w.heap.size u8 L dd _ (Kd.R_below (Kd.R_below HRR.out HB2.out) (pw_below_drewN (Below.refl _ _) _)) HII.out.1 (by have := HII.out.2.1; omega) (fun q hq => by have := HII.out.2.2.1 q hq; omega) (by have := HII.out.2.2.2.1.size; have := HB2.out.size; simp; omega)).mono ?_
          rintro e V4 ⟨v4, rfl, hR4, hg4⟩
          have HR4 := Lib.hid hR4
          have hbel4 : Below w.heap.size w V4 := pw_below_grown (pw_below_drewN (below_step HII.out.2.2.2.1 HB2.out) _) _ (by have := HII.out.2.2.2.1.size; have := HB2.out.size; simp; omega) hg4 (fun k hk => (Kd.R_base HRR.out k hk))
          have hbox4 := blk_grown (blk_drewN (blk_below HII.out.2.2.2.2 HB2.out) nd2) hg4 hrow
          have HX := Lib.hid (And.intro hbel4 hbox4)
          clear hR4 hg4 hbel4 hbox4 hrow
          go_wp2_with fail
          go_roundw
          case rel => exact ⟨n + 1, _, by go_num, by omega, by rw [show a1 + ((n + 1 : Nat) : Int) = a1 + n + 1 by omega]; exact HNX.out.symm, HR4.out, inc_add HII.out.1 _ _, by have := len_addD dd 1 L; have := HII.out.2.1; omega, (by have := bd_add1 (d := dd) HII.out.2.2.1 (by omega); rwa [show (n : Int) + 1 = ((n + 1 : Nat) : Int) from rfl] at this), HX.out.1, HX.out.2⟩
          case measure => simp [intOf]; omega
        · have hin2 := decide_eq_false hin
          have HIN := Lib.hid hin2
          have hnx := HCUT.out
          rw [if_neg hin] at hnx
          injection hnx with hn1 hn2
          subst hn1; subst hn2
          clear hin2 hin
          go_wp2_with fail
          refine (HCL.out _ (Kd.C_below HC.out HII.out.2.2.2.1)).mono ?_
          rintro e V2 ⟨rfl, hb2⟩
          have HB2 := Lib.hid hb2
          clear hb2 z0 z1 z2
          go_wp2_with fail
          refine (rDay_c _ _ _ HIN.out).mono ?_
          rintro e V3 ⟨rfl, nd2, rfl⟩
          go_wp2_with fail
          go_ret2
          exact ⟨_, rfl, Kd.R_nil _ _ _ _ _, pw_below_drewN (below_step HII.out.2.2.2.1 HB2.out) _⟩
      · have hz : (a2 - a1).toNat - n = 0 := by omega
        have hrs := HRS.out
        rw [hz] at hrs
        injection hrs with hn1 hn2
        subst hn1; subst hn2
        clear hz z0 z1 z2
        go_wp2_with fail
        go_ret2
        exact ⟨_, rfl, HRR.out, HII.out.2.2.2.1⟩
  · have hr := HR.out
    rw [if_neg hs] at hr
    have hse : stretchE a0_1 l0_2 a1 a2 = if a1 < 0 ∨ a2 < a1 ∨ 52596000 < a2 ∨ zvalid a0_1 l0_2 = false then 1 else if 44640 < a2 - a1 then 2 else 0 := rfl
    cases hv : zvalid a0_1 l0_2 with
    | false =>
      rw [hv] at C1
      rw [if_pos (.inr (.inr (.inr hv)))] at hse
      rw [hse] at hr
      injection hr with hn1 hn2
      subst hn1; subst hn2
      clear hse hs hv
      go_enter Try.func43, Try.ntmps43
      go_wp2_with fail
      refine (C1.out _ (Kd.C_alloc HC.out _)).mono ?_
      rintro e V ⟨rfl, hb⟩
      have hBV := below_step (below_alloc (Below.refl w.heap.size w) (.cells #[.string a0_0, .int .i64 a0_1, .slice A0_2 l0_2.length c0_2] 24)) hb
      have HBV := Lib.hid hBV
      clear hb hBV
      go_wp2_with fail
      go_ret2
      exact ⟨_, rfl, Kd.R_nil _ _ _ _ _, HBV.out⟩
    | true =>
      rw [hv] at C1
      have hB0 := below_alloc (Below.refl w.heap.size w) (.cells #[.string a0_0, .int .i64 a0_1, .slice A0_2 l0_2.length c0_2] 24)
      have HB0 := Lib.hid hB0
      clear hB0
      by_cases hst : 0 ≤ a1 ∧ a1 ≤ a2 ∧ a2 ≤ 52596000
      · have st : decide (0 ≤ a1 ∧ a1 ≤ a2 ∧ a2 ≤ 52596000) = true := decide_eq_true hst
        have ST := Lib.hid st
        clear st
        rw [if_neg (fun h => by rcases h with h | h | h | h; omega; omega; omega; rw [hv] at h; cases h)] at hse
        have h5 : 44640 < a2 - a1 := by
          by_cases c : 44640 < a2 - a1
          · exact c
          · rw [if_neg c] at hse; exact absurd hse hs
        rw [if_pos h5] at hse
        rw [hse] at hr
        injection hr with hn1 hn2
        subst hn1; subst hn2
        obtain ⟨s1, s2, s3⟩ := hst
        clear hse hs hv
        go_enter Try.func43, Try.ntmps43
        go_wp2_with fail
        refine (C1.out _ (Kd.C_alloc HC.out _)).mono ?_
        rintro e V ⟨rfl, hb⟩
        have HBV := Lib.hid (below_step HB0.out hb)
        clear hb
        go_wp2_with fail
        refine (rStretch_c _ _ _ _ ST.out).mono ?_
        rintro e V1 ⟨rfl, nd, rfl⟩
        go_wp2_with fail
        go_ret2
        exact ⟨_, rfl, Kd.R_nil _ _ _ _ _, pw_below_drewN HBV.out _⟩
      · have st : decide (0 ≤ a1 ∧ a1 ≤ a2 ∧ a2 ≤ 52596000) = false := decide_eq_false hst
        have ST := Lib.hid st
        clear st
        have hor : a1 < 0 ∨ a2 < a1 ∨ 52596000 < a2 ∨ zvalid a0_1 l0_2 = false := by omega
        rw [if_pos hor] at hse
        rw [hse] at hr
        injection hr with hn1 hn2
        subst hn1; subst hn2
        clear hse hs hv hor hst
        go_enter Try.func43, Try.ntmps43
        go_wp2_with fail
        refine (C1.out _ (Kd.C_alloc HC.out _)).mono ?_
        rintro e V ⟨rfl, hb⟩
        have HBV := Lib.hid (below_step HB0.out hb)
        clear hb
        go_wp2_with fail
        refine (rStretch_c _ _ _ _ ST.out).mono ?_
        rintro e V1 ⟨rfl, nd, rfl⟩
        go_wp2_with fail
        go_ret2
        exact ⟨_, rfl, Kd.R_nil _ _ _ _ _, pw_below_drewN HBV.out _⟩
end Go.Proofs.Ytnpceipoakclbaa.Q

namespace Go.Proofs.Ytnpceipoakclbaa.Q
open Go.RowKit Go.Proofs.YtnpceipoakclbaaW.PrintWords Go.Proofs.YtnpceipoakclbaaW.PrintLast Go.Proofs.YtnpceipoakclbaaW.PrintMore
attribute [local go_sem] max2_int min2_int max_two min_two max_three min_three max_four min_four   -- for this text's walks alone
set_option linter.unusedVariables false
set_option linter.unusedSimpArgs false
def wageofficeref03_Frame.f (a0_0 : Int) (a0_1 : Int) : Option (Bool) := if a0_0 ≥ 0 then (if a0_0 ≤ 1440 then (if a0_1 ≥ 0 then (some (decide (a0_1 ≤ 1440))) else (some false)) else (some false)) else (some false)
set_option maxHeartbeats 8000000 in
set_option maxRecDepth 100000 in
theorem wageofficeref03_Frame.calls (a0_0 : Int) (a0_1 : Int) (r : Bool) (w : World) (h : wageofficeref03_Frame.f a0_0 a0_1 = some r) :
    Calls Try.prog 71 #[.agg #[.int .i64 a0_0, .int .i64 a0_1]] w fun e w' => e = .returned (.bool r) ∧ Below w.heap.size w w' := by
  have hu28 := Try.underlying28
  have HB := Aside0.mk (Below.refl w.heap.size w)
  have H : (if a0_0 ≥ 0 then (if a0_0 ≤ 1440 then (if a0_1 ≥ 0 then (some (decide (a0_1 ≤ 1440))) else (some false)) else (some false)) else (some false)) = some r := h
  clear h
  by_cases c2 : a0_0 ≥ 0
  · rw [if_pos c2] at H
    have c2b0 : decide (0 ≤ a0_0) = true := decide_eq_true c2
    clear c2
    by_cases c3 : a0_0 ≤ 1440
    · rw [if_pos c3] at H
      have c3b0 : decide (a0_0 ≤ 1440) = true := decide_eq_true c3
      clear c3
      by_cases c4 : a0_1 ≥ 0
      · rw [if_pos c4] at H
        have c4b0 : decide (0 ≤ a0_1) = true := decide_eq_true c4
        clear c4
        obtain rfl := Option.some.inj H
        go_enter Try.func71, Try.ntmps71
        go_wp2_with (first | ((with_reducible refine gate_dst (N := 1) rfl ?_); refine box_event ?hg (N := 1) ?hd (cs := #[.int .i64 a0_0, .int .i64 a0_1]) (t := 28) ?hr ?_; (case hd => rfl); (case hg => rfl); (case hr => first | (go_simp; done) | (go_simp; rfl)); intro gb206 hg w5 hbox hb; have n0_ := Aside0.mk (below_step (by repeat (first | (with_reducible first | exact HB.out | apply below_alloc | apply pw_below_drewN | apply below_drew1) | exact HB.out)) hb); have n1_ := Aside0.mk (hbox); have n2_ := Aside0.mk ((by rw [hg]; exact (below_size (by repeat (first | (with_reducible first | exact HB.out | apply below_alloc | apply pw_below_drewN | apply below_drew1) | exact HB.out))) : w.heap.size ≤ gb206)); have n3_ := Aside0.mk ((by rw [hg]; exact (below_size (by repeat (first | (with_reducible first | exact HB.out | apply below_alloc | apply pw_below_drewN | apply below_drew1) | exact HB.out))) : w.heap.size ≤ gb206)); clear HB; have HB := n0_; have BK206 := n1_; have GW206 := n2_; have GE206 := n3_; clear n0_ n1_ n2_ n3_; clear hb hbox hg; have hcz6_0 : w5.cell? ⟨gb206, 0, none⟩ = some (.int .i64 a0_0) := (blk_cell BK206.out 0).trans rfl; have hcz6_1 : w5.cell? ⟨gb206, 1, none⟩ = some (.int .i64 a0_1) := (blk_cell BK206.out 1).trans rfl; have hfz6_0 := blk_frozen BK206.out 0; have hfz6_1 := blk_frozen BK206.out 1))
        go_ret
        exact ⟨by first | rfl | (simp [errW_none, errW_some] <;> rfl) | (simp [*, errW_none, errW_some] <;> rfl), by repeat (first | (with_reducible first | exact HB.out | apply below_alloc | apply pw_below_drewN | apply below_drew1 | refine below_set ?_ GE206.out) | exact HB.out)⟩
      · rw [if_neg c4] at H
        have c4b0 : decide (0 ≤ a0_1) = false := decide_eq_false c4
        clear c4
        obtain rfl := Option.some.inj H
        go_enter Try.func71, Try.ntmps71
        go_wp2_with (first | ((with_reducible refine gate_dst (N := 1) rfl ?_); refine box_event ?hg (N := 1) ?hd (cs := #[.int .i64 a0_0, .int .i64 a0_1]) (t := 28) ?hr ?_; (case hd => rfl); (case hg => rfl); (case hr => first | (go_simp; done) | (go_simp; rfl)); intro gb206 hg w7 hbox hb; have n0_ := Aside0.mk (below_step (by repeat (first | (with_reducible first | exact HB.out | apply below_alloc | apply pw_below_drewN | apply below_drew1) | exact HB.out)) hb); have n1_ := Aside0.mk (hbox); have n2_ := Aside0.mk ((by rw [hg]; exact (below_size (by repeat (first | (with_reducible first | exact HB.out | apply below_alloc | apply pw_below_drewN | apply below_drew1) | exact HB.out))) : w.heap.size ≤ gb206)); have n3_ := Aside0.mk ((by rw [hg]; exact (below_size (by repeat (first | (with_reducible first | exact HB.out | apply below_alloc | apply pw_below_drewN | apply below_drew1) | exact HB.out))) : w.heap.size ≤ gb206)); clear HB; have HB := n0_; have BK206 := n1_; have GW206 := n2_; have GE206 := n3_; clear n0_ n1_ n2_ n3_; clear hb hbox hg; have hcz8_0 : w7.cell? ⟨gb206, 0, none⟩ = some (.int .i64 a0_0) := (blk_cell BK206.out 0).trans rfl; have hcz8_1 : w7.cell? ⟨gb206, 1, none⟩ = some (.int .i64 a0_1) := (blk_cell BK206.out 1).trans rfl; have hfz8_0 := blk_frozen BK206.out 0; have hfz8_1 := blk_frozen BK206.out 1))
        go_ret
        exact ⟨by first | rfl | (simp [errW_none, errW_some] <;> rfl) | (simp [*, errW_none, errW_some] <;> rfl), by repeat (first | (with_reducible first | exact HB.out | apply below_alloc | apply pw_below_drewN | apply below_drew1 | refine below_set ?_ GE206.out) | exact HB.out)⟩
    · rw [if_neg c3] at H
      have c3b0 : decide (a0_0 ≤ 1440) = false := decide_eq_false c3
      clear c3
      obtain rfl := Option.some.inj H
      go_enter Try.func71, Try.ntmps71
      go_wp2_with (first | ((with_reducible refine gate_dst (N := 1) rfl ?_); refine box_event ?hg (N := 1) ?hd (cs := #[.int .i64 a0_0, .int .i64 a0_1]) (t := 28) ?hr ?_; (case hd => rfl); (case hg => rfl); (case hr => first | (go_simp; done) | (go_simp; rfl)); intro gb206 hg w9 hbox hb; have n0_ := Aside0.mk (below_step (by repeat (first | (with_reducible first | exact HB.out | apply below_alloc | apply pw_below_drewN | apply below_drew1) | exact HB.out)) hb); have n1_ := Aside0.mk (hbox); have n2_ := Aside0.mk ((by rw [hg]; exact (below_size (by repeat (first | (with_reducible first | exact HB.out | apply below_alloc | apply pw_below_drewN | apply below_drew1) | exact HB.out))) : w.heap.size ≤ gb206)); have n3_ := Aside0.mk ((by rw [hg]; exact (below_size (by repeat (first | (with_reducible first | exact HB.out | apply below_alloc | apply pw_below_drewN | apply below_drew1) | exact HB.out))) : w.heap.size ≤ gb206)); clear HB; have HB := n0_; have BK206 := n1_; have GW206 := n2_; have GE206 := n3_; clear n0_ n1_ n2_ n3_; clear hb hbox hg; have hcz10_0 : w9.cell? ⟨gb206, 0, none⟩ = some (.int .i64 a0_0) := (blk_cell BK206.out 0).trans rfl; have hcz10_1 : w9.cell? ⟨gb206, 1, none⟩ = some (.int .i64 a0_1) := (blk_cell BK206.out 1).trans rfl; have hfz10_0 := blk_frozen BK206.out 0; have hfz10_1 := blk_frozen BK206.out 1))
      go_ret
      exact ⟨by first | rfl | (simp [errW_none, errW_some] <;> rfl) | (simp [*, errW_none, errW_some] <;> rfl), by repeat (first | (with_reducible first | exact HB.out | apply below_alloc | apply pw_below_drewN | apply below_drew1 | refine below_set ?_ GE206.out) | exact HB.out)⟩
  · rw [if_neg c2] at H
    have c2b0 : decide (0 ≤ a0_0) = false := decide_eq_false c2
    clear c2
    obtain rfl := Option.some.inj H
    go_enter Try.func71, Try.ntmps71
    go_wp2_with (first | ((with_reducible refine gate_dst (N := 1) rfl ?_); refine box_event ?hg (N := 1) ?hd (cs := #[.int .i64 a0_0, .int .i64 a0_1]) (t := 28) ?hr ?_; (case hd => rfl); (case hg => rfl); (case hr => first | (go_simp; done) | (go_simp; rfl)); intro gb206 hg w11 hbox hb; have n0_ := Aside0.mk (below_step (by repeat (first | (with_reducible first | exact HB.out | apply below_alloc | apply pw_below_drewN | apply below_drew1) | exact HB.out)) hb); have n1_ := Aside0.mk (hbox); have n2_ := Aside0.mk ((by rw [hg]; exact (below_size (by repeat (first | (with_reducible first | exact HB.out | apply below_alloc | apply pw_below_drewN | apply below_drew1) | exact HB.out))) : w.heap.size ≤ gb206)); have n3_ := Aside0.mk ((by rw [hg]; exact (below_size (by repeat (first | (with_reducible first | exact HB.out | apply below_alloc | apply pw_below_drewN | apply below_drew1) | exact HB.out))) : w.heap.size ≤ gb206)); clear HB; have HB := n0_; have BK206 := n1_; have GW206 := n2_; have GE206 := n3_; clear n0_ n1_ n2_ n3_; clear hb hbox hg; have hcz12_0 : w11.cell? ⟨gb206, 0, none⟩ = some (.int .i64 a0_0) := (blk_cell BK206.out 0).trans rfl; have hcz12_1 : w11.cell? ⟨gb206, 1, none⟩ = some (.int .i64 a0_1) := (blk_cell BK206.out 1).trans rfl; have hfz12_0 := blk_frozen BK206.out 0; have hfz12_1 := blk_frozen BK206.out 1))
    go_ret
    exact ⟨by first | rfl | (simp [errW_none, errW_some] <;> rfl) | (simp [*, errW_none, errW_some] <;> rfl), by repeat (first | (with_reducible first | exact HB.out | apply below_alloc | apply pw_below_drewN | apply below_drew1 | refine below_set ?_ GE206.out) | exact HB.out)⟩
def wageofficeref03_In.f (a0_0 : Int) (a0_1 : Int) (a1 : Int) : Option (Bool) := if a0_0 > a0_1 then (if a1 ≥ a0_0 then (some true) else (some (decide (a1 < a0_1)))) else (if a0_0 ≤ a1 then (some (decide (a1 < a0_1))) else (some false))
set_option maxHeartbeats 8000000 in
set_option maxRecDepth 100000 in
theorem wageofficeref03_In.calls (a0_0 : Int) (a0_1 : Int) (a1 : Int) (r : Bool) (w : World) (h : wageofficeref03_In.f a0_0 a0_1 a1 = some r) :
    Calls Try.prog 72 #[.agg #[.int .i64 a0_0, .int .i64 a0_1], .int .i64 a1] w fun e w' => e = .returned (.bool r) ∧ Below w.heap.size w w' := by
  have hu28 := Try.underlying28
  have HB := Aside0.mk (Below.refl w.heap.size w)
  have H : (if a0_0 > a0_1 then (if a1 ≥ a0_0 then (some true) else (some (decide (a1 < a0_1)))) else (if a0_0 ≤ a1 then (some (decide (a1 < a0_1))) else (some false))) = some r := h
  clear h
  by_cases c3 : a0_0 > a0_1
  · rw [if_pos c3] at H
    have c3b0 : decide (a0_1 < a0_0) = true := decide_eq_true c3
    clear c3
    by_cases c4 : a1 ≥ a0_0
    · rw [if_pos c4] at H
      have c4b0 : decide (a0_0 ≤ a1) = true := decide_eq_true c4
      clear c4
      obtain rfl := Option.some.inj H
      go_enter Try.func72, Try.ntmps72
      go_wp2_with (first | ((with_reducible refine gate_dst (N := 2) rfl ?_); refine box_event ?hg (N := 2) ?hd (cs := #[.int .i64 a0_0, .int .i64 a0_1]) (t := 28) ?hr ?_; (case hd => rfl); (case hg => rfl); (case hr => first | (go_simp; done) | (go_simp; rfl)); intro gb212 hg w5 hbox hb; have n0_ := Aside0.mk (below_step (by repeat (first | (with_reducible first | exact HB.out | apply below_alloc | apply pw_below_drewN | apply below_drew1) | exact HB.out)) hb); have n1_ := Aside0.mk (hbox); have n2_ := Aside0.mk ((by rw [hg]; exact (below_size (by repeat (first | (with_reducible first | exact HB.out | apply below_alloc | apply pw_below_drewN | apply below_drew1) | exact HB.out))) : w.heap.size ≤ gb212)); have n3_ := Aside0.mk ((by rw [hg]; exact (below_size (by repeat (first | (with_reducible first | exact HB.out | apply below_alloc | apply pw_below_drewN | apply below_drew1) | exact HB.out))) : w.heap.size ≤ gb212)); clear HB; have HB := n0_; have BK212 := n1_; have GW212 := n2_; have GE212 := n3_; clear n0_ n1_ n2_ n3_; clear hb hbox hg; have hcz6_0 : w5.cell? ⟨gb212, 0, none⟩ = some (.int .i64 a0_0) := (blk_cell BK212.out 0).trans rfl; have hcz6_1 : w5.cell? ⟨gb212, 1, none⟩ = some (.int .i64 a0_1) := (blk_cell BK212.out 1).trans rfl; have hfz6_0 := blk_frozen BK212.out 0; have hfz6_1 := blk_frozen BK212.out 1))
      go_ret
      exact ⟨by first | rfl | (simp [errW_none, errW_some] <;> rfl) | (simp [*, errW_none, errW_some] <;> rfl), by repeat (first | (with_reducible first | exact HB.out | apply below_alloc | apply pw_below_drewN | apply below_drew1 | refine below_set ?_ GE212.out) | exact HB.out)⟩
    · rw [if_neg c4] at H
      have c4b0 : decide (a0_0 ≤ a1) = false := decide_eq_false c4
      clear c4
      obtain rfl := Option.some.inj H
      go_enter Try.func72, Try.ntmps72
      go_wp2_with (first | ((with_reducible refine gate_dst (N := 2) rfl ?_); refine box_event ?hg (N := 2) ?hd (cs := #[.int .i64 a0_0, .int .i64 a0_1]) (t := 28) ?hr ?_; (case hd => rfl); (case hg => rfl); (case hr => first | (go_simp; done) | (go_simp; rfl)); intro gb212 hg w7 hbox hb; have n0_ := Aside0.mk (below_step (by repeat (first | (with_reducible first | exact HB.out | apply below_alloc | apply pw_below_drewN | apply below_drew1) | exact HB.out)) hb); have n1_ := Aside0.mk (hbox); have n2_ := Aside0.mk ((by rw [hg]; exact (below_size (by repeat (first | (with_reducible first | exact HB.out | apply below_alloc | apply pw_below_drewN | apply below_drew1) | exact HB.out))) : w.heap.size ≤ gb212)); have n3_ := Aside0.mk ((by rw [hg]; exact (below_size (by repeat (first | (with_reducible first | exact HB.out | apply below_alloc | apply pw_below_drewN | apply below_drew1) | exact HB.out))) : w.heap.size ≤ gb212)); clear HB; have HB := n0_; have BK212 := n1_; have GW212 := n2_; have GE212 := n3_; clear n0_ n1_ n2_ n3_; clear hb hbox hg; have hcz8_0 : w7.cell? ⟨gb212, 0, none⟩ = some (.int .i64 a0_0) := (blk_cell BK212.out 0).trans rfl; have hcz8_1 : w7.cell? ⟨gb212, 1, none⟩ = some (.int .i64 a0_1) := (blk_cell BK212.out 1).trans rfl; have hfz8_0 := blk_frozen BK212.out 0; have hfz8_1 := blk_frozen BK212.out 1))
      go_ret
      exact ⟨by first | rfl | (simp [errW_none, errW_some] <;> rfl) | (simp [*, errW_none, errW_some] <;> rfl), by repeat (first | (with_reducible first | exact HB.out | apply below_alloc | apply pw_below_drewN | apply below_drew1 | refine below_set ?_ GE212.out) | exact HB.out)⟩
  · rw [if_neg c3] at H
    have c3b0 : decide (a0_1 < a0_0) = false := decide_eq_false c3
    clear c3
    by_cases c9 : a0_0 ≤ a1
    · rw [if_pos c9] at H
      have c9b0 : decide (a0_0 ≤ a1) = true := decide_eq_true c9
      clear c9
      obtain rfl := Option.some.inj H
      go_enter Try.func72, Try.ntmps72
      go_wp2_with (first | ((with_reducible refine gate_dst (N := 2) rfl ?_); refine box_event ?hg (N := 2) ?hd (cs := #[.int .i64 a0_0, .int .i64 a0_1]) (t := 28) ?hr ?_; (case hd => rfl); (case hg => rfl); (case hr => first | (go_simp; done) | (go_simp; rfl)); intro gb212 hg w10 hbox hb; have n0_ := Aside0.mk (below_step (by repeat (first | (with_reducible first | exact HB.out | apply below_alloc | apply pw_below_drewN | apply below_drew1) | exact HB.out)) hb); have n1_ := Aside0.mk (hbox); have n2_ := Aside0.mk ((by rw [hg]; exact (below_size (by repeat (first | (with_reducible first | exact HB.out | apply below_alloc | apply pw_below_drewN | apply below_drew1) | exact HB.out))) : w.heap.size ≤ gb212)); have n3_ := Aside0.mk ((by rw [hg]; exact (below_size (by repeat (first | (with_reducible first | exact HB.out | apply below_alloc | apply pw_below_drewN | apply below_drew1) | exact HB.out))) : w.heap.size ≤ gb212)); clear HB; have HB := n0_; have BK212 := n1_; have GW212 := n2_; have GE212 := n3_; clear n0_ n1_ n2_ n3_; clear hb hbox hg; have hcz11_0 : w10.cell? ⟨gb212, 0, none⟩ = some (.int .i64 a0_0) := (blk_cell BK212.out 0).trans rfl; have hcz11_1 : w10.cell? ⟨gb212, 1, none⟩ = some (.int .i64 a0_1) := (blk_cell BK212.out 1).trans rfl; have hfz11_0 := blk_frozen BK212.out 0; have hfz11_1 := blk_frozen BK212.out 1))
      go_ret
      exact ⟨by first | rfl | (simp [errW_none, errW_some] <;> rfl) | (simp [*, errW_none, errW_some] <;> rfl), by repeat (first | (with_reducible first | exact HB.out | apply below_alloc | apply pw_below_drewN | apply below_drew1 | refine below_set ?_ GE212.out) | exact HB.out)⟩
    · rw [if_neg c9] at H
      have c9b0 : decide (a0_0 ≤ a1) = false := decide_eq_false c9
      clear c9
      obtain rfl := Option.some.inj H
      go_enter Try.func72, Try.ntmps72
      go_wp2_with (first | ((with_reducible refine gate_dst (N := 2) rfl ?_); refine box_event ?hg (N := 2) ?hd (cs := #[.int .i64 a0_0, .int .i64 a0_1]) (t := 28) ?hr ?_; (case hd => rfl); (case hg => rfl); (case hr => first | (go_simp; done) | (go_simp; rfl)); intro gb212 hg w12 hbox hb; have n0_ := Aside0.mk (below_step (by repeat (first | (with_reducible first | exact HB.out | apply below_alloc | apply pw_below_drewN | apply below_drew1) | exact HB.out)) hb); have n1_ := Aside0.mk (hbox); have n2_ := Aside0.mk ((by rw [hg]; exact (below_size (by repeat (first | (with_reducible first | exact HB.out | apply below_alloc | apply pw_below_drewN | apply below_drew1) | exact HB.out))) : w.heap.size ≤ gb212)); have n3_ := Aside0.mk ((by rw [hg]; exact (below_size (by repeat (first | (with_reducible first | exact HB.out | apply below_alloc | apply pw_below_drewN | apply below_drew1) | exact HB.out))) : w.heap.size ≤ gb212)); clear HB; have HB := n0_; have BK212 := n1_; have GW212 := n2_; have GE212 := n3_; clear n0_ n1_ n2_ n3_; clear hb hbox hg; have hcz13_0 : w12.cell? ⟨gb212, 0, none⟩ = some (.int .i64 a0_0) := (blk_cell BK212.out 0).trans rfl; have hcz13_1 : w12.cell? ⟨gb212, 1, none⟩ = some (.int .i64 a0_1) := (blk_cell BK212.out 1).trans rfl; have hfz13_0 := blk_frozen BK212.out 0; have hfz13_1 := blk_frozen BK212.out 1))
      go_ret
      exact ⟨by first | rfl | (simp [errW_none, errW_some] <;> rfl) | (simp [*, errW_none, errW_some] <;> rfl), by repeat (first | (with_reducible first | exact HB.out | apply below_alloc | apply pw_below_drewN | apply below_drew1 | refine below_set ?_ GE212.out) | exact HB.out)⟩
mutual
def wageofficeref03_Window.j0 : Nat → Int → Int → Bool → ByteArray → Int → List (S75) → Int → Int → Option (Int × Int)
  | 0, _, _, _, _, _, _, _, _ => none
  | k + 1, x1, x2, x27, x214000, x214001, x214002, x215000, x215001 => if x27 = true then (some (0, 1)) else (if (wrap64 (x2 - x1)) > 44640 then (some (0, 2)) else (wageofficeref03_Window.l0 k x2 0 x1 x214000 x214001 x214002 x215000 x215001))
def wageofficeref03_Window.l0 : Nat → Int → Int → Int → ByteArray → Int → List (S75) → Int → Int → Option (Int × Int)
  | 0, _, _, _, _, _, _, _, _ => none
  | k + 1, x2, x10, x11, x214000, x214001, x214002, x215000, x215001 => if x11 < x2 then ((wageofficeref03_local.f k x214000 x214001 x214002 x11).bind fun bt218 => ((wageofficeref03_In.f x215000 x215001 bt218.2).bind fun t220 => (if t220 = true then (wageofficeref03_Window.l0 k x2 (wrap64 (x10 + 1)) (wrap64 (x11 + 1)) x214000 x214001 x214002 x215000 x215001) else (wageofficeref03_Window.l0 k x2 x10 (wrap64 (x11 + 1)) x214000 x214001 x214002 x215000 x215001)))) else (some (x10, 0))
end
def wageofficeref03_Window.f (k : Nat) (a0_0 : ByteArray) (a0_1 : Int) (l0_2 : List (S75)) (a1 : Int) (a2 : Int) (a3_0 : Int) (a3_1 : Int) : Option (Int × Int) := (wageofficeref03_Valid.f a0_0 a0_1 l0_2).bind fun t215 => (if t215 = true then ((wageofficeref03_Stretch.f a1 a2).bind fun t216 => (if t216 = true then ((wageofficeref03_Frame.f a3_0 a3_1).bind fun t217 => (wageofficeref03_Window.j0 k a1 a2 (!t217) a0_0 a0_1 l0_2 a3_0 a3_1)) else (wageofficeref03_Window.j0 k a1 a2 true a0_0 a0_1 l0_2 a3_0 a3_1))) else (wageofficeref03_Window.j0 k a1 a2 true a0_0 a0_1 l0_2 a3_0 a3_1))
theorem wageofficeref03_Window.mono_l : ∀ k, (∀ y0 y1 y2 y3 y4 y5 y6 y7, LeO (wageofficeref03_Window.j0 k y0 y1 y2 y3 y4 y5 y6 y7) (wageofficeref03_Window.j0 (k + 1) y0 y1 y2 y3 y4 y5 y6 y7)) ∧ (∀ y0 y1 y2 y3 y4 y5 y6 y7, LeO (wageofficeref03_Window.l0 k y0 y1 y2 y3 y4 y5 y6 y7) (wageofficeref03_Window.l0 (k + 1) y0 y1 y2 y3 y4 y5 y6 y7))
  | 0 => ⟨fun _ _ _ _ _ _ _ _ r h => by simp [wageofficeref03_Window.j0] at h, fun _ _ _ _ _ _ _ _ r h => by simp [wageofficeref03_Window.l0] at h⟩
  | k + 1 => by
    obtain ⟨ih0, ih1⟩ := wageofficeref03_Window.mono_l k
    refine ⟨?_, ?_⟩
    · intro y0 y1 y2 y3 y4 y5 y6 y7
      unfold wageofficeref03_Window.j0
      repeat' first
      | (with_reducible exact ih0 _ _ _ _ _ _ _ _)
      | (with_reducible exact ih1 _ _ _ _ _ _ _ _)
      | (with_reducible exact wageofficeref03_local.mono _ _ _ _ _)
      | (with_reducible exact LeO.refl _)
      | (with_reducible exact LeO.none _)
      | (with_reducible refine LeO.ite ?_ ?_)
      | (with_reducible refine LeO.bind ?_ (fun _ => ?_))
      | exact ih0 _ _ _ _ _ _ _ _
      | exact ih1 _ _ _ _ _ _ _ _
      | exact wageofficeref03_local.mono _ _ _ _ _
      | exact LeO.none _
      | refine LeO.ite ?_ ?_
      | refine LeO.bind ?_ (fun _ => ?_)
    · intro y0 y1 y2 y3 y4 y5 y6 y7
      unfold wageofficeref03_Window.l0
      repeat' first
      | (with_reducible exact ih0 _ _ _ _ _ _ _ _)
      | (with_reducible exact ih1 _ _ _ _ _ _ _ _)
      | (with_reducible exact wageofficeref03_local.mono _ _ _ _ _)
      | (with_reducible exact LeO.refl _)
      | (with_reducible exact LeO.none _)
      | (with_reducible refine LeO.ite ?_ ?_)
      | (with_reducible refine LeO.bind ?_ (fun _ => ?_))
      | exact ih0 _ _ _ _ _ _ _ _
      | exact ih1 _ _ _ _ _ _ _ _
      | exact wageofficeref03_local.mono _ _ _ _ _
      | exact LeO.none _
      | refine LeO.ite ?_ ?_
      | refine LeO.bind ?_ (fun _ => ?_)
theorem wageofficeref03_Window.mono : ∀ a0 a1 a2 a3 a4 a5 a6 k, LeO (wageofficeref03_Window.f k a0 a1 a2 a3 a4 a5 a6) (wageofficeref03_Window.f (k + 1) a0 a1 a2 a3 a4 a5 a6) := by
  intro a0 a1 a2 a3 a4 a5 a6 k
  obtain ⟨ih0, ih1⟩ := wageofficeref03_Window.mono_l k
  unfold wageofficeref03_Window.f
  repeat' first
      | (with_reducible exact ih0 _ _ _ _ _ _ _ _)
      | (with_reducible exact ih1 _ _ _ _ _ _ _ _)
      | (with_reducible exact wageofficeref03_local.mono _ _ _ _ _)
      | (with_reducible exact LeO.refl _)
      | (with_reducible exact LeO.none _)
      | (with_reducible refine LeO.ite ?_ ?_)
      | (with_reducible refine LeO.bind ?_ (fun _ => ?_))
      | exact ih0 _ _ _ _ _ _ _ _
      | exact ih1 _ _ _ _ _ _ _ _
      | exact wageofficeref03_local.mono _ _ _ _ _
      | exact LeO.none _
      | refine LeO.ite ?_ ?_
      | refine LeO.bind ?_ (fun _ => ?_)
set_option maxHeartbeats 8000000 in
set_option maxRecDepth 100000 in
theorem wageofficeref03_Window.calls (k : Nat) (a0_0 : ByteArray) (a0_1 : Int) (A0_2 : Option Addr) (c0_2 : Nat) (l0_2 : List (S75)) (a1 : Int) (a2 : Int) (a3_0 : Int) (a3_1 : Int) (r1 : Int) (r2 : Int) (w : World) (hr0_2 : Kd.C k75 w A0_2 l0_2.length l0_2) (hc0_2 : l0_2.length ≤ c0_2) (h : wageofficeref03_Window.f k a0_0 a0_1 l0_2 a1 a2 a3_0 a3_1 = some (r1, r2)) :
    Calls Try.prog 45 #[.agg #[.string a0_0, .int .i64 a0_1, .slice A0_2 l0_2.length c0_2], .int .i64 a1, .int .i64 a2, .agg #[.int .i64 a3_0, .int .i64 a3_1]] w fun e w' => e = .returned (.tuple #[.int .i64 r1, .int .i64 r2]) ∧ Below w.heap.size w w' := by
  have hu24 := Try.underlying24
  have hu28 := Try.underlying28
  have HR0_2 := Aside0.mk hr0_2
  have HC0_2 := Aside0.mk hc0_2
  clear hr0_2 hc0_2
  have HB := Aside0.mk (Below.refl w.heap.size w)
  have H : ((wageofficeref03_Valid.f a0_0 a0_1 l0_2).bind fun t215 => (if t215 = true then ((wageofficeref03_Stretch.f a1 a2).bind fun t216 => (if t216 = true then ((wageofficeref03_Frame.f a3_0 a3_1).bind fun t217 => (wageofficeref03_Window.j0 k a1 a2 (!t217) a0_0 a0_1 l0_2 a3_0 a3_1)) else (wageofficeref03_Window.j0 k a1 a2 true a0_0 a0_1 l0_2 a3_0 a3_1))) else (wageofficeref03_Window.j0 k a1 a2 true a0_0 a0_1 l0_2 a3_0 a3_1))) = some (r1, r2) := h
  clear h
  have HC5 := Aside0.mk H
  clear H
  go_enter Try.func45, Try.ntmps45
  go_upto_region 1 with (first | ((with_reducible refine gate_dst (N := 4) rfl ?_); refine box_event ?hg (N := 4) ?hd (cs := #[.string a0_0, .int .i64 a0_1, .slice A0_2 l0_2.length c0_2]) (t := 24) ?hr ?_; (case hd => rfl); (case hg => rfl); (case hr => first | (go_simp; done) | (go_simp; rfl)); intro gb213 hg w6 hbox hb; have n0_ := Aside0.mk (below_step (by repeat (first | (with_reducible first | exact HB.out | apply below_alloc | apply pw_below_drewN | apply below_drew1) | exact HB.out)) hb); have n1_ := Aside0.mk (hbox); have n2_ := Aside0.mk ((by rw [hg]; exact (below_size (by repeat (first | (with_reducible first | exact HB.out | apply below_alloc | apply pw_below_drewN | apply below_drew1) | exact HB.out))) : w.heap.size ≤ gb213)); have n3_ := Aside0.mk ((by rw [hg]; exact (below_size (by repeat (first | (with_reducible first | exact HB.out | apply below_alloc | apply pw_below_drewN | apply below_drew1) | exact HB.out))) : w.heap.size ≤ gb213)); clear HB; have HB := n0_; have BK213 := n1_; have GW213 := n2_; have GE213 := n3_; clear n0_ n1_ n2_ n3_; clear hb hbox hg) | ((with_reducible refine gate_dst (N := 7) rfl ?_); refine box_event ?hg (N := 7) ?hd (cs := #[.int .i64 a3_0, .int .i64 a3_1]) (t := 28) ?hr ?_; (case hd => rfl); (case hg => rfl); (case hr => first | (go_simp; done) | (go_simp; rfl)); intro gb214 hg w7 hbox hb; have n0_ := Aside0.mk (blk_below (g := gb213) (o := .cells #[.string a0_0, .int .i64 a0_1, .slice A0_2 l0_2.length c0_2] 24 (0, 0)) (by (with_reducible repeat (first | refine blk_drewN ?_ _ | refine blk_drew ?_ | refine blk_alloc ?_ _)); exact BK213.out) hb); have n1_ := Aside0.mk (below_step (by repeat (first | (with_reducible first | exact HB.out | apply below_alloc | apply pw_below_drewN | apply below_drew1 | refine below_set ?_ GE213.out) | exact HB.out)) hb); have n2_ := Aside0.mk (hbox); have n3_ := Aside0.mk ((by rw [hg]; exact (below_size (by repeat (first | (with_reducible first | exact HB.out | apply below_alloc | apply pw_below_drewN | apply below_drew1 | refine below_set ?_ GE213.out) | exact HB.out))) : w.heap.size ≤ gb214)); have n4_ := Aside0.mk ((by rw [hg]; exact (below_size (by repeat (first | (with_reducible first | exact HB.out | apply below_alloc | apply pw_below_drewN | apply below_drew1 | refine below_set ?_ GE213.out) | exact HB.out))) : w.heap.size ≤ gb214)); have n5_ := Aside0.mk ((by rw [hg]; exact Nat.ne_of_lt (blk_lt (g := gb213) (o := .cells #[.string a0_0, .int .i64 a0_1, .slice A0_2 l0_2.length c0_2] 24 (0, 0)) (by (with_reducible repeat (first | refine blk_drewN ?_ _ | refine blk_drew ?_ | refine blk_alloc ?_ _)); exact BK213.out)) : gb213 ≠ gb214)); have n6_ := Aside0.mk ((by rw [hg]; exact Nat.ne_of_gt (blk_lt (g := gb213) (o := .cells #[.string a0_0, .int .i64 a0_1, .slice A0_2 l0_2.length c0_2] 24 (0, 0)) (by (with_reducible repeat (first | refine blk_drewN ?_ _ | refine blk_drew ?_ | refine blk_alloc ?_ _)); exact BK213.out)) : gb214 ≠ gb213)); clear BK213; clear HB; have BK213 := n0_; have HB := n1_; have BK214 := n2_; have GW214 := n3_; have GE214 := n4_; have NB213_214 := n5_; have NB214_213 := n6_; clear n0_ n1_ n2_ n3_ n4_ n5_ n6_; clear hb hbox hg))
  (try simp only [Act.put, List.setIfInBounds_toArray, List.set_cons_zero, List.set_cons_succ])
  go_cut [27] (fun v27 wc => ∃ (kq : Nat) (x27_4 : Bool), v27 = .bool x27_4 ∧ Aside0 (wageofficeref03_Window.j0 kq a1 a2 x27_4 a0_0 a0_1 l0_2 a3_0 a3_1 = some (r1, r2)) ∧ Aside0 (kq ≤ k) ∧ Aside0 (wc.heap[gb213]? = some (.cells #[.string a0_0, .int .i64 a0_1, (.slice A0_2 l0_2.length c0_2)] 24 (0, 0))) ∧ Aside0 (wc.heap[gb214]? = some (.cells #[.int .i64 a3_0, .int .i64 a3_1] 28 (0, 0))) ∧ Aside0 (Below w.heap.size w wc))
  case first =>
    have H := HC5.out
    clear HC5
    replace H := Option.bind_eq_some_iff.mp H
    obtain ⟨t215, A80, H⟩ := H
    replace H : (if t215 = true then ((wageofficeref03_Stretch.f a1 a2).bind fun t216 => (if t216 = true then ((wageofficeref03_Frame.f a3_0 a3_1).bind fun t217 => (wageofficeref03_Window.j0 k a1 a2 (!t217) a0_0 a0_1 l0_2 a3_0 a3_1)) else (wageofficeref03_Window.j0 k a1 a2 true a0_0 a0_1 l0_2 a3_0 a3_1))) else (wageofficeref03_Window.j0 k a1 a2 true a0_0 a0_1 l0_2 a3_0 a3_1)) = some (r1, r2) := H
    have A8 := Aside0.mk A80
    clear A80
    by_cases c9 : t215 = true
    · subst c9
      have H1 : ((wageofficeref03_Stretch.f a1 a2).bind fun t216 => (if t216 = true then ((wageofficeref03_Frame.f a3_0 a3_1).bind fun t217 => (wageofficeref03_Window.j0 k a1 a2 (!t217) a0_0 a0_1 l0_2 a3_0 a3_1)) else (wageofficeref03_Window.j0 k a1 a2 true a0_0 a0_1 l0_2 a3_0 a3_1))) = some (r1, r2) := by rw [if_pos rfl] at H; exact H
      clear H
      have H := H1
      clear H1
      replace H := Option.bind_eq_some_iff.mp H
      obtain ⟨t216, A100, H⟩ := H
      replace H : (if t216 = true then ((wageofficeref03_Frame.f a3_0 a3_1).bind fun t217 => (wageofficeref03_Window.j0 k a1 a2 (!t217) a0_0 a0_1 l0_2 a3_0 a3_1)) else (wageofficeref03_Window.j0 k a1 a2 true a0_0 a0_1 l0_2 a3_0 a3_1)) = some (r1, r2) := H
      have A10 := Aside0.mk A100
      clear A100
      by_cases c11 : t216 = true
      · subst c11
        have H1 : ((wageofficeref03_Frame.f a3_0 a3_1).bind fun t217 => (wageofficeref03_Window.j0 k a1 a2 (!t217) a0_0 a0_1 l0_2 a3_0 a3_1)) = some (r1, r2) := by rw [if_pos rfl] at H; exact H
        clear H
        have H := H1
        clear H1
        replace H := Option.bind_eq_some_iff.mp H
        obtain ⟨t217, A120, H⟩ := H
        replace H : (wageofficeref03_Window.j0 k a1 a2 (!t217) a0_0 a0_1 l0_2 a3_0 a3_1) = some (r1, r2) := H
        have A12 := Aside0.mk A120
        clear A120
        have H' := Aside0.mk H
        clear H
        have hnb13 := NB213_214.out
        have hnc13 := NB214_213.out
        have hcz14_0 : w7.cell? ⟨gb213, 0, none⟩ = some (.string a0_0) := (blk_cell BK213.out 0).trans rfl
        have hcz14_1 : w7.cell? ⟨gb213, 1, none⟩ = some (.int .i64 a0_1) := (blk_cell BK213.out 1).trans rfl
        have hcz14_2 : w7.cell? ⟨gb213, 2, none⟩ = some (.slice A0_2 l0_2.length c0_2) := (blk_cell BK213.out 2).trans rfl
        have hfz14_0 := blk_frozen BK213.out 0
        have hfz14_1 := blk_frozen BK213.out 1
        have hfz14_2 := blk_frozen BK213.out 2
        go_wp2_with (first | ((with_reducible refine gate_callee (f := 39) rfl ?_); refine goesL_ (some 15) rfl rfl Try.func39 (by kernel_rfl) rfl #[.agg #[.string a0_0, .int .i64 a0_1, .slice A0_2 l0_2.length c0_2]] rfl (by (try simp only [List.map_toArray, List.map_cons, List.map_nil]); first | done | rfl | (simp only [List.length_drop, List.length_take]; rfl)) ?_; (with_reducible refine (wageofficeref03_Valid.calls a0_0 a0_1 _ _ l0_2 true _ ?side1 ?side2 A8.out).mono ?_); (case side1 => repeat (first | exact (Kd.C_below HR0_2.out HB.out) | (with_reducible refine Kd.C_alloc ?_ _) | (with_reducible refine Kd.C_drewN ?_ _) | (with_reducible refine Kd.C_drew ?_))); (case side2 => exact HC0_2.out); rintro e w15 ⟨rfl, hb⟩; refine ⟨_, rfl, ?_⟩; have n0_ := Aside0.mk (blk_below (g := gb213) (o := .cells #[.string a0_0, .int .i64 a0_1, .slice A0_2 l0_2.length c0_2] 24 (0, 0)) (by (with_reducible repeat (first | refine blk_drewN ?_ _ | refine blk_drew ?_ | refine blk_alloc ?_ _)); exact BK213.out) hb); have n1_ := Aside0.mk (blk_below (g := gb214) (o := .cells #[.int .i64 a3_0, .int .i64 a3_1] 28 (0, 0)) (by (with_reducible repeat (first | refine blk_drewN ?_ _ | refine blk_drew ?_ | refine blk_alloc ?_ _)); exact BK214.out) hb); have n2_ := Aside0.mk (below_step (by repeat (first | (with_reducible first | exact HB.out | apply below_alloc | apply pw_below_drewN | apply below_drew1 | refine below_set ?_ GE213.out | refine below_set ?_ GE214.out) | exact HB.out)) hb); clear BK213; clear BK214; clear HB; have BK213 := n0_; have BK214 := n1_; have HB := n2_; clear n0_ n1_ n2_; (try clear hb); (try clear hb2); (try clear hk); (try clear hi)) | (go_at_call 69; (with_reducible refine (wageofficeref03_Stretch.calls a1 a2 true _ A10.out).mono ?_); rintro e w' ⟨rfl, ⟨nd, rfl⟩⟩; have hcz16_0 : w15.cell? ⟨gb214, 0, none⟩ = some (.int .i64 a3_0) := (blk_cell BK214.out 0).trans rfl; have hcz16_1 : w15.cell? ⟨gb214, 1, none⟩ = some (.int .i64 a3_1) := (blk_cell BK214.out 1).trans rfl; have hfz16_0 := blk_frozen BK214.out 0; have hfz16_1 := blk_frozen BK214.out 1) | (go_at_call 71; (with_reducible refine (wageofficeref03_Frame.calls a3_0 a3_1 t217 _ A12.out).mono ?_); rintro e w17 ⟨rfl, hb⟩; have n0_ := Aside0.mk (blk_below (g := gb213) (o := .cells #[.string a0_0, .int .i64 a0_1, .slice A0_2 l0_2.length c0_2] 24 (0, 0)) (by (with_reducible repeat (first | refine blk_drewN ?_ _ | refine blk_drew ?_ | refine blk_alloc ?_ _)); exact BK213.out) hb); have n1_ := Aside0.mk (blk_below (g := gb214) (o := .cells #[.int .i64 a3_0, .int .i64 a3_1] 28 (0, 0)) (by (with_reducible repeat (first | refine blk_drewN ?_ _ | refine blk_drew ?_ | refine blk_alloc ?_ _)); exact BK214.out) hb); have n2_ := Aside0.mk (below_step (by repeat (first | (with_reducible first | exact HB.out | apply below_alloc | apply pw_below_drewN | apply below_drew1 | refine below_set ?_ GE213.out | refine below_set ?_ GE214.out) | exact HB.out)) hb); clear BK213; clear BK214; clear HB; have BK213 := n0_; have BK214 := n1_; have HB := n2_; clear n0_ n1_ n2_; (try clear hb); (try clear hb2); (try clear hk); (try clear hi)))
        go_meet
        case rel => exact ⟨_, (!t217), (by first | rfl | (simp; done) | (simp [*]; done)), H', ⟨by first | omega | exact Nat.le_refl _⟩, ⟨by (with_reducible repeat (first | refine blk_drewN ?_ _ | refine blk_drew ?_ | refine blk_alloc ?_ _)); exact BK213.out⟩, ⟨by (with_reducible repeat (first | refine blk_drewN ?_ _ | refine blk_drew ?_ | refine blk_alloc ?_ _)); exact BK214.out⟩, ⟨by repeat (first | (with_reducible first | exact HB.out | apply below_alloc | apply pw_below_drewN | apply below_drew1 | refine below_set ?_ GE213.out | refine below_set ?_ GE214.out) | exact HB.out)⟩⟩
      · replace c11 := Bool.eq_false_iff.mpr c11
        subst c11
        have H1 : (wageofficeref03_Window.j0 k a1 a2 true a0_0 a0_1 l0_2 a3_0 a3_1) = some (r1, r2) := by rw [if_neg (show ¬ (false = true) by decide)] at H; exact H
        clear H
        have H := H1
        clear H1
        have H' := Aside0.mk H
        clear H
        have hnb18 := NB213_214.out
        have hnc18 := NB214_213.out
        have hcz19_0 : w7.cell? ⟨gb213, 0, none⟩ = some (.string a0_0) := (blk_cell BK213.out 0).trans rfl
        have hcz19_1 : w7.cell? ⟨gb213, 1, none⟩ = some (.int .i64 a0_1) := (blk_cell BK213.out 1).trans rfl
        have hcz19_2 : w7.cell? ⟨gb213, 2, none⟩ = some (.slice A0_2 l0_2.length c0_2) := (blk_cell BK213.out 2).trans rfl
        have hfz19_0 := blk_frozen BK213.out 0
        have hfz19_1 := blk_frozen BK213.out 1
        have hfz19_2 := blk_frozen BK213.out 2
        go_wp2_with (first | ((with_reducible refine gate_callee (f := 39) rfl ?_); refine goesL_ (some 15) rfl rfl Try.func39 (by kernel_rfl) rfl #[.agg #[.string a0_0, .int .i64 a0_1, .slice A0_2 l0_2.length c0_2]] rfl (by (try simp only [List.map_toArray, List.map_cons, List.map_nil]); first | done | rfl | (simp only [List.length_drop, List.length_take]; rfl)) ?_; (with_reducible refine (wageofficeref03_Valid.calls a0_0 a0_1 _ _ l0_2 true _ ?side1 ?side2 A8.out).mono ?_); (case side1 => repeat (first | exact (Kd.C_below HR0_2.out HB.out) | (with_reducible refine Kd.C_alloc ?_ _) | (with_reducible refine Kd.C_drewN ?_ _) | (with_reducible refine Kd.C_drew ?_))); (case side2 => exact HC0_2.out); rintro e w20 ⟨rfl, hb⟩; refine ⟨_, rfl, ?_⟩; have n0_ := Aside0.mk (blk_below (g := gb213) (o := .cells #[.string a0_0, .int .i64 a0_1, .slice A0_2 l0_2.length c0_2] 24 (0, 0)) (by (with_reducible repeat (first | refine blk_drewN ?_ _ | refine blk_drew ?_ | refine blk_alloc ?_ _)); exact BK213.out) hb); have n1_ := Aside0.mk (blk_below (g := gb214) (o := .cells #[.int .i64 a3_0, .int .i64 a3_1] 28 (0, 0)) (by (with_reducible repeat (first | refine blk_drewN ?_ _ | refine blk_drew ?_ | refine blk_alloc ?_ _)); exact BK214.out) hb); have n2_ := Aside0.mk (below_step (by repeat (first | (with_reducible first | exact HB.out | apply below_alloc | apply pw_below_drewN | apply below_drew1 | refine below_set ?_ GE213.out | refine below_set ?_ GE214.out) | exact HB.out)) hb); clear BK213; clear BK214; clear HB; have BK213 := n0_; have BK214 := n1_; have HB := n2_; clear n0_ n1_ n2_; (try clear hb); (try clear hb2); (try clear hk); (try clear hi)) | (go_at_call 69; (with_reducible refine (wageofficeref03_Stretch.calls a1 a2 false _ A10.out).mono ?_); rintro e w' ⟨rfl, ⟨nd, rfl⟩⟩))
        go_meet
        case rel => exact ⟨_, (true), (by first | rfl | (simp; done) | (simp [*]; done)), H', ⟨by first | omega | exact Nat.le_refl _⟩, ⟨by (with_reducible repeat (first | refine blk_drewN ?_ _ | refine blk_drew ?_ | refine blk_alloc ?_ _)); exact BK213.out⟩, ⟨by (with_reducible repeat (first | refine blk_drewN ?_ _ | refine blk_drew ?_ | refine blk_alloc ?_ _)); exact BK214.out⟩, ⟨by repeat (first | (with_reducible first | exact HB.out | apply below_alloc | apply pw_below_drewN | apply below_drew1 | refine below_set ?_ GE213.out | refine below_set ?_ GE214.out) | exact HB.out)⟩⟩
    · replace c9 := Bool.eq_false_iff.mpr c9
      subst c9
      have H1 : (wageofficeref03_Window.j0 k a1 a2 true a0_0 a0_1 l0_2 a3_0 a3_1) = some (r1, r2) := by rw [if_neg (show ¬ (false = true) by decide)] at H; exact H
      clear H
      have H := H1
      clear H1
      have H' := Aside0.mk H
      clear H
      have hnb21 := NB213_214.out
      have hnc21 := NB214_213.out
      have hcz22_0 : w7.cell? ⟨gb213, 0, none⟩ = some (.string a0_0) := (blk_cell BK213.out 0).trans rfl
      have hcz22_1 : w7.cell? ⟨gb213, 1, none⟩ = some (.int .i64 a0_1) := (blk_cell BK213.out 1).trans rfl
      have hcz22_2 : w7.cell? ⟨gb213, 2, none⟩ = some (.slice A0_2 l0_2.length c0_2) := (blk_cell BK213.out 2).trans rfl
      have hfz22_0 := blk_frozen BK213.out 0
      have hfz22_1 := blk_frozen BK213.out 1
      have hfz22_2 := blk_frozen BK213.out 2
      go_wp2_with (first | ((with_reducible refine gate_callee (f := 39) rfl ?_); refine goesL_ (some 15) rfl rfl Try.func39 (by kernel_rfl) rfl #[.agg #[.string a0_0, .int .i64 a0_1, .slice A0_2 l0_2.length c0_2]] rfl (by (try simp only [List.map_toArray, List.map_cons, List.map_nil]); first | done | rfl | (simp only [List.length_drop, List.length_take]; rfl)) ?_; (with_reducible refine (wageofficeref03_Valid.calls a0_0 a0_1 _ _ l0_2 false _ ?side1 ?side2 A8.out).mono ?_); (case side1 => repeat (first | exact (Kd.C_below HR0_2.out HB.out) | (with_reducible refine Kd.C_alloc ?_ _) | (with_reducible refine Kd.C_drewN ?_ _) | (with_reducible refine Kd.C_drew ?_))); (case side2 => exact HC0_2.out); rintro e w23 ⟨rfl, hb⟩; refine ⟨_, rfl, ?_⟩; have n0_ := Aside0.mk (blk_below (g := gb213) (o := .cells #[.string a0_0, .int .i64 a0_1, .slice A0_2 l0_2.length c0_2] 24 (0, 0)) (by (with_reducible repeat (first | refine blk_drewN ?_ _ | refine blk_drew ?_ | refine blk_alloc ?_ _)); exact BK213.out) hb); have n1_ := Aside0.mk (blk_below (g := gb214) (o := .cells #[.int .i64 a3_0, .int .i64 a3_1] 28 (0, 0)) (by (with_reducible repeat (first | refine blk_drewN ?_ _ | refine blk_drew ?_ | refine blk_alloc ?_ _)); exact BK214.out) hb); have n2_ := Aside0.mk (below_step (by repeat (first | (with_reducible first | exact HB.out | apply below_alloc | apply pw_below_drewN | apply below_drew1 | refine below_set ?_ GE213.out | refine below_set ?_ GE214.out) | exact HB.out)) hb); clear BK213; clear BK214; clear HB; have BK213 := n0_; have BK214 := n1_; have HB := n2_; clear n0_ n1_ n2_; (try clear hb); (try clear hb2); (try clear hk); (try clear hi)))
      go_meet
      case rel => exact ⟨_, (true), (by first | rfl | (simp; done) | (simp [*]; done)), H', ⟨by first | omega | exact Nat.le_refl _⟩, ⟨by (with_reducible repeat (first | refine blk_drewN ?_ _ | refine blk_drew ?_ | refine blk_alloc ?_ _)); exact BK213.out⟩, ⟨by (with_reducible repeat (first | refine blk_drewN ?_ _ | refine blk_drew ?_ | refine blk_alloc ?_ _)); exact BK214.out⟩, ⟨by repeat (first | (with_reducible first | exact HB.out | apply below_alloc | apply pw_below_drewN | apply below_drew1 | refine below_set ?_ GE213.out | refine below_set ?_ GE214.out) | exact HB.out)⟩⟩
  case rest =>
    clear HC5
    try clear c1
    try clear c2
    try clear p2
    try clear c3
    try clear c4
    try clear c9
    try clear c11
    try clear c13
    try clear c18
    try clear c21
    try clear hcz14_0
    try clear hcz14_1
    try clear hcz14_2
    try clear hcz16_0
    try clear hcz16_1
    try clear hcz19_0
    try clear hcz19_1
    try clear hcz19_2
    try clear hcz22_0
    try clear hcz22_1
    try clear hcz22_2
    try clear hfz14_0
    try clear hfz14_1
    try clear hfz14_2
    try clear hfz16_0
    try clear hfz16_1
    try clear hfz19_0
    try clear hfz19_1
    try clear hfz19_2
    try clear hfz22_0
    try clear hfz22_1
    try clear hfz22_2
    obtain ⟨kq, x27_4, rfl, HA, HJ4, BK213, BK214, HB⟩ := hcut
    cases kq with
    | zero => exact absurd HA.out (by simp [wageofficeref03_Window.j0])
    | succ kj4 =>
      have H := HA.out
      clear HA
      simp only [wageofficeref03_Window.j0] at H
      by_cases c24 : x27_4 = true
      · subst c24
        have H1 : (some (0, 1)) = some (r1, r2) := by rw [if_pos rfl] at H; exact H
        clear H
        have H := H1
        clear H1
        simp only [Option.some.injEq, Prod.mk.injEq] at H
        obtain ⟨rfl, rfl⟩ := H
        go_wp2
        go_ret2
        exact ⟨by first | rfl | (simp [errW_none, errW_some] <;> rfl) | (simp [*, errW_none, errW_some] <;> rfl), by repeat (first | (with_reducible first | exact HB.out | apply below_alloc | apply pw_below_drewN | apply below_drew1 | refine below_set ?_ GE213.out | refine below_set ?_ GE214.out) | exact HB.out)⟩
      · replace c24 := Bool.eq_false_iff.mpr c24
        subst c24
        have H1 : (if (wrap64 (a2 - a1)) > 44640 then (some (0, 2)) else (wageofficeref03_Window.l0 kj4 a2 0 a1 a0_0 a0_1 l0_2 a3_0 a3_1)) = some (r1, r2) := by rw [if_neg (show ¬ (false = true) by decide)] at H; exact H
        clear H
        have H := H1
        clear H1
        by_cases c25 : (wrap64 (a2 - a1)) > 44640
        · rw [if_pos c25] at H
          have c25b0 : decide (44640 < (wrap64 (a2 - a1))) = true := decide_eq_true c25
          clear c25
          simp only [Option.some.injEq, Prod.mk.injEq] at H
          obtain ⟨rfl, rfl⟩ := H
          go_wp2
          go_ret2
          exact ⟨by first | rfl | (simp [errW_none, errW_some] <;> rfl) | (simp [*, errW_none, errW_some] <;> rfl), by repeat (first | (with_reducible first | exact HB.out | apply below_alloc | apply pw_below_drewN | apply below_drew1 | refine below_set ?_ GE213.out | refine below_set ?_ GE214.out) | exact HB.out)⟩
        · rw [if_neg c25] at H
          have c25b0 : decide (44640 < (wrap64 (a2 - a1))) = false := decide_eq_false c25
          clear c25
          have H' := Aside0.mk H
          clear H
          go_wp2
          go_loopg [10, 11] kj4 (fun kq v10 v11 w' => ∃ (x10_2 : Int) (x11_2 : Int), v10 = .int .i64 x10_2 ∧ v11 = .int .i64 x11_2 ∧ Aside0 (wageofficeref03_Window.l0 kq a2 x10_2 x11_2 a0_0 a0_1 l0_2 a3_0 a3_1 = some (r1, r2)) ∧ Aside0 (kq ≤ kj4) ∧ Aside0 (w'.heap[gb213]? = some (.cells #[.string a0_0, .int .i64 a0_1, (.slice A0_2 l0_2.length c0_2)] 24 (0, 0))) ∧ Aside0 (w'.heap[gb214]? = some (.cells #[.int .i64 a3_0, .int .i64 a3_1] 28 (0, 0))) ∧ Aside0 (Below w.heap.size w w'))
          case atStart => exact ⟨(0), (a1), (by first | rfl | (simp; done) | (simp [*]; done)), (by first | rfl | (simp; done) | (simp [*]; done)), H', ⟨Nat.le_refl _⟩, ⟨by (with_reducible repeat (first | refine blk_drewN ?_ _ | refine blk_drew ?_ | refine blk_alloc ?_ _)); exact BK213.out⟩, ⟨by (with_reducible repeat (first | refine blk_drewN ?_ _ | refine blk_drew ?_ | refine blk_alloc ?_ _)); exact BK214.out⟩, ⟨by repeat (first | (with_reducible first | exact HB.out | apply below_alloc | apply pw_below_drewN | apply below_drew1 | refine below_set ?_ GE213.out | refine below_set ?_ GE214.out) | exact HB.out)⟩⟩
          case round =>
            clear H'
            try clear c1
            try clear c2
            try clear p2
            try clear c3
            try clear c4
            try clear p6
            try clear c9
            try clear c11
            try clear c13
            try clear c18
            try clear c21
            try clear c24
            try clear c25
            try clear c25b0
            try clear hcz14_0
            try clear hcz14_1
            try clear hcz14_2
            try clear hcz16_0
            try clear hcz16_1
            try clear hcz19_0
            try clear hcz19_1
            try clear hcz19_2
            try clear hcz22_0
            try clear hcz22_1
            try clear hcz22_2
            try clear hfz14_0
            try clear hfz14_1
            try clear hfz14_2
            try clear hfz16_0
            try clear hfz16_1
            try clear hfz19_0
            try clear hfz19_1
            try clear hfz19_2
            try clear hfz22_0
            try clear hfz22_1
            try clear hfz22_2
            try clear p2
            obtain ⟨x10_2, x11_2, rfl, rfl, HA, HK2, BK213, BK214, HB⟩ := hrel
            cases gk with
            | zero => exact absurd HA.out (by simp [wageofficeref03_Window.l0])
            | succ k2 =>
              have H := HA.out
              clear HA
              simp only [wageofficeref03_Window.l0] at H
              by_cases c26 : x11_2 < a2
              · rw [if_pos c26] at H
                have c26b0 : decide (x11_2 < a2) = true := decide_eq_true c26
                clear c26
                replace H := Option.bind_eq_some_iff.mp H
                obtain ⟨⟨t218, t219⟩, A270, H⟩ := H
                replace H : ((wageofficeref03_In.f a3_0 a3_1 t219).bind fun t220 => (if t220 = true then (wageofficeref03_Window.l0 k2 a2 (wrap64 (x10_2 + 1)) (wrap64 (x11_2 + 1)) a0_0 a0_1 l0_2 a3_0 a3_1) else (wageofficeref03_Window.l0 k2 a2 x10_2 (wrap64 (x11_2 + 1)) a0_0 a0_1 l0_2 a3_0 a3_1))) = some (r1, r2) := H
                have A27 := Aside0.mk A270
                clear A270
                replace H := Option.bind_eq_some_iff.mp H
                obtain ⟨t220, A280, H⟩ := H
                replace H : (if t220 = true then (wageofficeref03_Window.l0 k2 a2 (wrap64 (x10_2 + 1)) (wrap64 (x11_2 + 1)) a0_0 a0_1 l0_2 a3_0 a3_1) else (wageofficeref03_Window.l0 k2 a2 x10_2 (wrap64 (x11_2 + 1)) a0_0 a0_1 l0_2 a3_0 a3_1)) = some (r1, r2) := H
                have A28 := Aside0.mk A280
                clear A280
                by_cases c29 : t220 = true
                · subst c29
                  have H1 : (wageofficeref03_Window.l0 k2 a2 (wrap64 (x10_2 + 1)) (wrap64 (x11_2 + 1)) a0_0 a0_1 l0_2 a3_0 a3_1) = some (r1, r2) := by rw [if_pos rfl] at H; exact H
                  clear H
                  have H := H1
                  clear H1
                  have H' := Aside0.mk H
                  clear H
                  have hnb30 := NB213_214.out
                  have hnc30 := NB214_213.out
                  have hcz31_0 : wr.cell? ⟨gb213, 0, none⟩ = some (.string a0_0) := (blk_cell BK213.out 0).trans rfl
                  have hcz31_1 : wr.cell? ⟨gb213, 1, none⟩ = some (.int .i64 a0_1) := (blk_cell BK213.out 1).trans rfl
                  have hcz31_2 : wr.cell? ⟨gb213, 2, none⟩ = some (.slice A0_2 l0_2.length c0_2) := (blk_cell BK213.out 2).trans rfl
                  have hfz31_0 := blk_frozen BK213.out 0
                  have hfz31_1 := blk_frozen BK213.out 1
                  have hfz31_2 := blk_frozen BK213.out 2
                  go_wp2_with (first | ((with_reducible refine gate_callee (f := 56) rfl ?_); refine goesL_ (some 41) rfl rfl Try.func56 (by kernel_rfl) rfl #[.agg #[.string a0_0, .int .i64 a0_1, .slice A0_2 l0_2.length c0_2], .int .i64 x11_2] rfl (by (try simp only [List.map_toArray, List.map_cons, List.map_nil]); first | done | rfl | (simp only [List.length_drop, List.length_take]; rfl)) ?_; (with_reducible refine (wageofficeref03_local.calls k2 a0_0 a0_1 _ _ l0_2 x11_2 t218 t219 _ ?side1 ?side2 A27.out).mono ?_); (case side1 => repeat (first | exact (Kd.C_below HR0_2.out HB.out) | (with_reducible refine Kd.C_alloc ?_ _) | (with_reducible refine Kd.C_drewN ?_ _) | (with_reducible refine Kd.C_drew ?_))); (case side2 => exact HC0_2.out); rintro e w32 ⟨rfl, hb⟩; refine ⟨_, rfl, ?_⟩; have n0_ := Aside0.mk (blk_below (g := gb213) (o := .cells #[.string a0_0, .int .i64 a0_1, .slice A0_2 l0_2.length c0_2] 24 (0, 0)) (by (with_reducible repeat (first | refine blk_drewN ?_ _ | refine blk_drew ?_ | refine blk_alloc ?_ _)); exact BK213.out) hb); have n1_ := Aside0.mk (blk_below (g := gb214) (o := .cells #[.int .i64 a3_0, .int .i64 a3_1] 28 (0, 0)) (by (with_reducible repeat (first | refine blk_drewN ?_ _ | refine blk_drew ?_ | refine blk_alloc ?_ _)); exact BK214.out) hb); have n2_ := Aside0.mk (below_step (by repeat (first | (with_reducible first | exact HB.out | apply below_alloc | apply pw_below_drewN | apply below_drew1 | refine below_set ?_ GE213.out | refine below_set ?_ GE214.out) | exact HB.out)) hb); clear BK213; clear BK214; clear HB; have BK213 := n0_; have BK214 := n1_; have HB := n2_; clear n0_ n1_ n2_; (try clear hb); (try clear hb2); (try clear hk); (try clear hi); have hcz33_0 : w32.cell? ⟨gb214, 0, none⟩ = some (.int .i64 a3_0) := (blk_cell BK214.out 0).trans rfl; have hcz33_1 : w32.cell? ⟨gb214, 1, none⟩ = some (.int .i64 a3_1) := (blk_cell BK214.out 1).trans rfl; have hfz33_0 := blk_frozen BK214.out 0; have hfz33_1 := blk_frozen BK214.out 1) | ((with_reducible refine gate_callee (f := 72) rfl ?_); refine goesL_ (some 46) rfl rfl Try.func72 (by kernel_rfl) rfl #[.agg #[.int .i64 a3_0, .int .i64 a3_1], .int .i64 t219] rfl (by (try simp only [List.map_toArray, List.map_cons, List.map_nil]); first | done | rfl | (simp only [List.length_drop, List.length_take]; rfl)) ?_; (with_reducible refine (wageofficeref03_In.calls a3_0 a3_1 t219 true _ A28.out).mono ?_); rintro e w34 ⟨rfl, hb⟩; refine ⟨_, rfl, ?_⟩; have n0_ := Aside0.mk (blk_below (g := gb213) (o := .cells #[.string a0_0, .int .i64 a0_1, .slice A0_2 l0_2.length c0_2] 24 (0, 0)) (by (with_reducible repeat (first | refine blk_drewN ?_ _ | refine blk_drew ?_ | refine blk_alloc ?_ _)); exact BK213.out) hb); have n1_ := Aside0.mk (blk_below (g := gb214) (o := .cells #[.int .i64 a3_0, .int .i64 a3_1] 28 (0, 0)) (by (with_reducible repeat (first | refine blk_drewN ?_ _ | refine blk_drew ?_ | refine blk_alloc ?_ _)); exact BK214.out) hb); have n2_ := Aside0.mk (below_step (by repeat (first | (with_reducible first | exact HB.out | apply below_alloc | apply pw_below_drewN | apply below_drew1 | refine below_set ?_ GE213.out | refine below_set ?_ GE214.out) | exact HB.out)) hb); clear BK213; clear BK214; clear HB; have BK213 := n0_; have BK214 := n1_; have HB := n2_; clear n0_ n1_ n2_; (try clear hb); (try clear hb2); (try clear hk); (try clear hi)))
                  go_roundg k2
                  case measure => have := HJ4.out; have := HK2.out; omega
                  case rel => exact ⟨(wrap64 (x10_2 + 1)), (wrap64 (x11_2 + 1)), (by first | rfl | (simp; done) | (simp [*]; done)), (by first | rfl | (simp; done) | (simp [*]; done)), H', ⟨by have := HJ4.out; have := HK2.out; omega⟩, ⟨by (with_reducible repeat (first | refine blk_drewN ?_ _ | refine blk_drew ?_ | refine blk_alloc ?_ _)); exact BK213.out⟩, ⟨by (with_reducible repeat (first | refine blk_drewN ?_ _ | refine blk_drew ?_ | refine blk_alloc ?_ _)); exact BK214.out⟩, ⟨by repeat (first | (with_reducible first | exact HB.out | apply below_alloc | apply pw_below_drewN | apply below_drew1 | refine below_set ?_ GE213.out | refine below_set ?_ GE214.out) | exact HB.out)⟩⟩
                · replace c29 := Bool.eq_false_iff.mpr c29
                  subst c29
                  have H1 : (wageofficeref03_Window.l0 k2 a2 x10_2 (wrap64 (x11_2 + 1)) a0_0 a0_1 l0_2 a3_0 a3_1) = some (r1, r2) := by rw [if_neg (show ¬ (false = true) by decide)] at H; exact H
                  clear H
                  have H := H1
                  clear H1
                  have H' := Aside0.mk H
                  clear H
                  have hnb35 := NB213_214.out
                  have hnc35 := NB214_213.out
                  have hcz36_0 : wr.cell? ⟨gb213, 0, none⟩ = some (.string a0_0) := (blk_cell BK213.out 0).trans rfl
                  have hcz36_1 : wr.cell? ⟨gb213, 1, none⟩ = some (.int .i64 a0_1) := (blk_cell BK213.out 1).trans rfl
                  have hcz36_2 : wr.cell? ⟨gb213, 2, none⟩ = some (.slice A0_2 l0_2.length c0_2) := (blk_cell BK213.out 2).trans rfl
                  have hfz36_0 := blk_frozen BK213.out 0
                  have hfz36_1 := blk_frozen BK213.out 1
                  have hfz36_2 := blk_frozen BK213.out 2
                  go_wp2_with (first | ((with_reducible refine gate_callee (f := 56) rfl ?_); refine goesL_ (some 41) rfl rfl Try.func56 (by kernel_rfl) rfl #[.agg #[.string a0_0, .int .i64 a0_1, .slice A0_2 l0_2.length c0_2], .int .i64 x11_2] rfl (by (try simp only [List.map_toArray, List.map_cons, List.map_nil]); first | done | rfl | (simp only [List.length_drop, List.length_take]; rfl)) ?_; (with_reducible refine (wageofficeref03_local.calls k2 a0_0 a0_1 _ _ l0_2 x11_2 t218 t219 _ ?side1 ?side2 A27.out).mono ?_); (case side1 => repeat (first | exact (Kd.C_below HR0_2.out HB.out) | (with_reducible refine Kd.C_alloc ?_ _) | (with_reducible refine Kd.C_drewN ?_ _) | (with_reducible refine Kd.C_drew ?_))); (case side2 => exact HC0_2.out); rintro e w37 ⟨rfl, hb⟩; refine ⟨_, rfl, ?_⟩; have n0_ := Aside0.mk (blk_below (g := gb213) (o := .cells #[.string a0_0, .int .i64 a0_1, .slice A0_2 l0_2.length c0_2] 24 (0, 0)) (by (with_reducible repeat (first | refine blk_drewN ?_ _ | refine blk_drew ?_ | refine blk_alloc ?_ _)); exact BK213.out) hb); have n1_ := Aside0.mk (blk_below (g := gb214) (o := .cells #[.int .i64 a3_0, .int .i64 a3_1] 28 (0, 0)) (by (with_reducible repeat (first | refine blk_drewN ?_ _ | refine blk_drew ?_ | refine blk_alloc ?_ _)); exact BK214.out) hb); have n2_ := Aside0.mk (below_step (by repeat (first | (with_reducible first | exact HB.out | apply below_alloc | apply pw_below_drewN | apply below_drew1 | refine below_set ?_ GE213.out | refine below_set ?_ GE214.out) | exact HB.out)) hb); clear BK213; clear BK214; clear HB; have BK213 := n0_; have BK214 := n1_; have HB := n2_; clear n0_ n1_ n2_; (try clear hb); (try clear hb2); (try clear hk); (try clear hi); have hcz38_0 : w37.cell? ⟨gb214, 0, none⟩ = some (.int .i64 a3_0) := (blk_cell BK214.out 0).trans rfl; have hcz38_1 : w37.cell? ⟨gb214, 1, none⟩ = some (.int .i64 a3_1) := (blk_cell BK214.out 1).trans rfl; have hfz38_0 := blk_frozen BK214.out 0; have hfz38_1 := blk_frozen BK214.out 1) | ((with_reducible refine gate_callee (f := 72) rfl ?_); refine goesL_ (some 46) rfl rfl Try.func72 (by kernel_rfl) rfl #[.agg #[.int .i64 a3_0, .int .i64 a3_1], .int .i64 t219] rfl (by (try simp only [List.map_toArray, List.map_cons, List.map_nil]); first | done | rfl | (simp only [List.length_drop, List.length_take]; rfl)) ?_; (with_reducible refine (wageofficeref03_In.calls a3_0 a3_1 t219 false _ A28.out).mono ?_); rintro e w39 ⟨rfl, hb⟩; refine ⟨_, rfl, ?_⟩; have n0_ := Aside0.mk (blk_below (g := gb213) (o := .cells #[.string a0_0, .int .i64 a0_1, .slice A0_2 l0_2.length c0_2] 24 (0, 0)) (by (with_reducible repeat (first | refine blk_drewN ?_ _ | refine blk_drew ?_ | refine blk_alloc ?_ _)); exact BK213.out) hb); have n1_ := Aside0.mk (blk_below (g := gb214) (o := .cells #[.int .i64 a3_0, .int .i64 a3_1] 28 (0, 0)) (by (with_reducible repeat (first | refine blk_drewN ?_ _ | refine blk_drew ?_ | refine blk_alloc ?_ _)); exact BK214.out) hb); have n2_ := Aside0.mk (below_step (by repeat (first | (with_reducible first | exact HB.out | apply below_alloc | apply pw_below_drewN | apply below_drew1 | refine below_set ?_ GE213.out | refine below_set ?_ GE214.out) | exact HB.out)) hb); clear BK213; clear BK214; clear HB; have BK213 := n0_; have BK214 := n1_; have HB := n2_; clear n0_ n1_ n2_; (try clear hb); (try clear hb2); (try clear hk); (try clear hi)))
                  go_roundg k2
                  case measure => have := HJ4.out; have := HK2.out; omega
                  case rel => exact ⟨(x10_2), (wrap64 (x11_2 + 1)), (by first | rfl | (simp; done) | (simp [*]; done)), (by first | rfl | (simp; done) | (simp [*]; done)), H', ⟨by have := HJ4.out; have := HK2.out; omega⟩, ⟨by (with_reducible repeat (first | refine blk_drewN ?_ _ | refine blk_drew ?_ | refine blk_alloc ?_ _)); exact BK213.out⟩, ⟨by (with_reducible repeat (first | refine blk_drewN ?_ _ | refine blk_drew ?_ | refine blk_alloc ?_ _)); exact BK214.out⟩, ⟨by repeat (first | (with_reducible first | exact HB.out | apply below_alloc | apply pw_below_drewN | apply below_drew1 | refine below_set ?_ GE213.out | refine below_set ?_ GE214.out) | exact HB.out)⟩⟩
              · rw [if_neg c26] at H
                have c26b0 : decide (x11_2 < a2) = false := decide_eq_false c26
                clear c26
                simp only [Option.some.injEq, Prod.mk.injEq] at H
                obtain ⟨rfl, rfl⟩ := H
                go_wp2
                go_ret2
                exact ⟨by first | rfl | (simp [errW_none, errW_some] <;> rfl) | (simp [*, errW_none, errW_some] <;> rfl), by repeat (first | (with_reducible first | exact HB.out | apply below_alloc | apply pw_below_drewN | apply below_drew1 | refine below_set ?_ GE213.out | refine below_set ?_ GE214.out) | exact HB.out)⟩
end Go.Proofs.Ytnpceipoakclbaa.Q

namespace Go.Proofs.Ytnpceipoakclbaa.Q
open Go.RowKit Go.Proofs.YtnpceipoakclbaaW.PrintWords Go.Proofs.YtnpceipoakclbaaW.PrintLast Go.Proofs.YtnpceipoakclbaaW.PrintMore
attribute [local go_sem] max2_int min2_int max_two min_two max_three min_three max_four min_four   -- for this text's walks alone
set_option linter.unusedVariables false
set_option linter.unusedSimpArgs false
mutual
def wageofficeref03_Length.j0 : Nat → Int → Bool → ByteArray → Int → List (S75) → Option (Int)
  | 0, _, _, _, _, _ => none
  | k + 1, x1, x16, x274000, x274001, x274002 => if x16 = true then (some 0) else (wageofficeref03_Length.l0 k x1 0 (wrap64 ((wrap64 (x1 * 1440)) - 840)) x274000 x274001 x274002)
def wageofficeref03_Length.l0 : Nat → Int → Int → Int → ByteArray → Int → List (S75) → Option (Int)
  | 0, _, _, _, _, _, _ => none
  | k + 1, x1, x5, x6, x274000, x274001, x274002 => if x6 < (wrap64 ((wrap64 ((wrap64 (x1 * 1440)) + 1440)) + 840)) then ((wageofficeref03_local.f k x274000 x274001 x274002 x6).bind fun bt276 => ((wageofficeref03_Instant.f x6).bind fun t278 => (if t278 = true then (if bt276.1 = x1 then (wageofficeref03_Length.l0 k x1 (wrap64 (x5 + 1)) (wrap64 (x6 + 1)) x274000 x274001 x274002) else (wageofficeref03_Length.l0 k x1 x5 (wrap64 (x6 + 1)) x274000 x274001 x274002)) else (wageofficeref03_Length.l0 k x1 x5 (wrap64 (x6 + 1)) x274000 x274001 x274002)))) else (some x5)
end
def wageofficeref03_Length.f (k : Nat) (a0_0 : ByteArray) (a0_1 : Int) (l0_2 : List (S75)) (a1 : Int) : Option (Int) := (wageofficeref03_Valid.f a0_0 a0_1 l0_2).bind fun t274 => (if t274 = true then ((wageofficeref03_Day.f a1).bind fun t275 => (wageofficeref03_Length.j0 k a1 (!t275) a0_0 a0_1 l0_2)) else (wageofficeref03_Length.j0 k a1 true a0_0 a0_1 l0_2))
theorem wageofficeref03_Length.mono_l : ∀ k, (∀ y0 y1 y2 y3 y4, LeO (wageofficeref03_Length.j0 k y0 y1 y2 y3 y4) (wageofficeref03_Length.j0 (k + 1) y0 y1 y2 y3 y4)) ∧ (∀ y0 y1 y2 y3 y4 y5, LeO (wageofficeref03_Length.l0 k y0 y1 y2 y3 y4 y5) (wageofficeref03_Length.l0 (k + 1) y0 y1 y2 y3 y4 y5))
  | 0 => ⟨fun _ _ _ _ _ r h => by simp [wageofficeref03_Length.j0] at h, fun _ _ _ _ _ _ r h => by simp [wageofficeref03_Length.l0] at h⟩
  | k + 1 => by
    obtain ⟨ih0, ih1⟩ := wageofficeref03_Length.mono_l k
    refine ⟨?_, ?_⟩
    · intro y0 y1 y2 y3 y4
      unfold wageofficeref03_Length.j0
      repeat' first
      | (with_reducible exact ih0 _ _ _ _ _)
      | (with_reducible exact ih1 _ _ _ _ _ _)
      | (with_reducible exact wageofficeref03_local.mono _ _ _ _ _)
      | (with_reducible exact LeO.refl _)
      | (with_reducible exact LeO.none _)
      | (with_reducible refine LeO.ite ?_ ?_)
      | (with_reducible refine LeO.bind ?_ (fun _ => ?_))
      | exact ih0 _ _ _ _ _
      | exact ih1 _ _ _ _ _ _
      | exact wageofficeref03_local.mono _ _ _ _ _
      | exact LeO.none _
      | refine LeO.ite ?_ ?_
      | refine LeO.bind ?_ (fun _ => ?_)
    · intro y0 y1 y2 y3 y4 y5
      unfold wageofficeref03_Length.l0
      repeat' first
      | (with_reducible exact ih0 _ _ _ _ _)
      | (with_reducible exact ih1 _ _ _ _ _ _)
      | (with_reducible exact wageofficeref03_local.mono _ _ _ _ _)
      | (with_reducible exact LeO.refl _)
      | (with_reducible exact LeO.none _)
      | (with_reducible refine LeO.ite ?_ ?_)
      | (with_reducible refine LeO.bind ?_ (fun _ => ?_))
      | exact ih0 _ _ _ _ _
      | exact ih1 _ _ _ _ _ _
      | exact wageofficeref03_local.mono _ _ _ _ _
      | exact LeO.none _
      | refine LeO.ite ?_ ?_
      | refine LeO.bind ?_ (fun _ => ?_)
theorem wageofficeref03_Length.mono : ∀ a0 a1 a2 a3 k, LeO (wageofficeref03_Length.f k a0 a1 a2 a3) (wageofficeref03_Length.f (k + 1) a0 a1 a2 a3) := by
  intro a0 a1 a2 a3 k
  obtain ⟨ih0, ih1⟩ := wageofficeref03_Length.mono_l k
  unfold wageofficeref03_Length.f
  repeat' first
      | (with_reducible exact ih0 _ _ _ _ _)
      | (with_reducible exact ih1 _ _ _ _ _ _)
      | (with_reducible exact wageofficeref03_local.mono _ _ _ _ _)
      | (with_reducible exact LeO.refl _)
      | (with_reducible exact LeO.none _)
      | (with_reducible refine LeO.ite ?_ ?_)
      | (with_reducible refine LeO.bind ?_ (fun _ => ?_))
      | exact ih0 _ _ _ _ _
      | exact ih1 _ _ _ _ _ _
      | exact wageofficeref03_local.mono _ _ _ _ _
      | exact LeO.none _
      | refine LeO.ite ?_ ?_
      | refine LeO.bind ?_ (fun _ => ?_)
set_option maxHeartbeats 8000000 in
set_option maxRecDepth 100000 in
theorem wageofficeref03_Length.calls (k : Nat) (a0_0 : ByteArray) (a0_1 : Int) (A0_2 : Option Addr) (c0_2 : Nat) (l0_2 : List (S75)) (a1 : Int) (r : Int) (w : World) (hr0_2 : Kd.C k75 w A0_2 l0_2.length l0_2) (hc0_2 : l0_2.length ≤ c0_2) (h : wageofficeref03_Length.f k a0_0 a0_1 l0_2 a1 = some r) :
    Calls Try.prog 29 #[.agg #[.string a0_0, .int .i64 a0_1, .slice A0_2 l0_2.length c0_2], .int .i64 a1] w fun e w' => e = .returned (.int .i64 r) ∧ Below w.heap.size w w' := by
  have hu24 := Try.underlying24
  have HR0_2 := Aside0.mk hr0_2
  have HC0_2 := Aside0.mk hc0_2
  clear hr0_2 hc0_2
  have HB := Aside0.mk (Below.refl w.heap.size w)
  have H : ((wageofficeref03_Valid.f a0_0 a0_1 l0_2).bind fun t274 => (if t274 = true then ((wageofficeref03_Day.f a1).bind fun t275 => (wageofficeref03_Length.j0 k a1 (!t275) a0_0 a0_1 l0_2)) else (wageofficeref03_Length.j0 k a1 true a0_0 a0_1 l0_2))) = some r := h
  clear h
  have HC3 := Aside0.mk H
  clear H
  go_enter Try.func29, Try.ntmps29
  go_upto_region 1 with (first | ((with_reducible refine gate_dst (N := 2) rfl ?_); refine box_event ?hg (N := 2) ?hd (cs := #[.string a0_0, .int .i64 a0_1, .slice A0_2 l0_2.length c0_2]) (t := 24) ?hr ?_; (case hd => rfl); (case hg => rfl); (case hr => first | (go_simp; done) | (go_simp; rfl)); intro gb273 hg w4 hbox hb; have n0_ := Aside0.mk (below_step (by repeat (first | (with_reducible first | exact HB.out | apply below_alloc | apply pw_below_drewN | apply below_drew1) | exact HB.out)) hb); have n1_ := Aside0.mk (hbox); have n2_ := Aside0.mk ((by rw [hg]; exact (below_size (by repeat (first | (with_reducible first | exact HB.out | apply below_alloc | apply pw_below_drewN | apply below_drew1) | exact HB.out))) : w.heap.size ≤ gb273)); have n3_ := Aside0.mk ((by rw [hg]; exact (below_size (by repeat (first | (with_reducible first | exact HB.out | apply below_alloc | apply pw_below_drewN | apply below_drew1) | exact HB.out))) : w.heap.size ≤ gb273)); clear HB; have HB := n0_; have BK273 := n1_; have GW273 := n2_; have GE273 := n3_; clear n0_ n1_ n2_ n3_; clear hb hbox hg))
  (try simp only [Act.put, List.setIfInBounds_toArray, List.set_cons_zero, List.set_cons_succ])
  go_cut [16] (fun v16 wc => ∃ (kq : Nat) (x16_2 : Bool), v16 = .bool x16_2 ∧ Aside0 (wageofficeref03_Length.j0 kq a1 x16_2 a0_0 a0_1 l0_2 = some r) ∧ Aside0 (kq ≤ k) ∧ Aside0 (wc.heap[gb273]? = some (.cells #[.string a0_0, .int .i64 a0_1, (.slice A0_2 l0_2.length c0_2)] 24 (0, 0))) ∧ Aside0 (Below w.heap.size w wc))
  case first =>
    have H := HC3.out
    clear HC3
    replace H := Option.bind_eq_some_iff.mp H
    obtain ⟨t274, A50, H⟩ := H
    replace H : (if t274 = true then ((wageofficeref03_Day.f a1).bind fun t275 => (wageofficeref03_Length.j0 k a1 (!t275) a0_0 a0_1 l0_2)) else (wageofficeref03_Length.j0 k a1 true a0_0 a0_1 l0_2)) = some r := H
    have A5 := Aside0.mk A50
    clear A50
    by_cases c6 : t274 = true
    · subst c6
      have H1 : ((wageofficeref03_Day.f a1).bind fun t275 => (wageofficeref03_Length.j0 k a1 (!t275) a0_0 a0_1 l0_2)) = some r := by rw [if_pos rfl] at H; exact H
      clear H
      have H := H1
      clear H1
      replace H := Option.bind_eq_some_iff.mp H
      obtain ⟨t275, A70, H⟩ := H
      replace H : (wageofficeref03_Length.j0 k a1 (!t275) a0_0 a0_1 l0_2) = some r := H
      have A7 := Aside0.mk A70
      clear A70
      have H' := Aside0.mk H
      clear H
      have hcz8_0 : w4.cell? ⟨gb273, 0, none⟩ = some (.string a0_0) := (blk_cell BK273.out 0).trans rfl
      have hcz8_1 : w4.cell? ⟨gb273, 1, none⟩ = some (.int .i64 a0_1) := (blk_cell BK273.out 1).trans rfl
      have hcz8_2 : w4.cell? ⟨gb273, 2, none⟩ = some (.slice A0_2 l0_2.length c0_2) := (blk_cell BK273.out 2).trans rfl
      have hfz8_0 := blk_frozen BK273.out 0
      have hfz8_1 := blk_frozen BK273.out 1
      have hfz8_2 := blk_frozen BK273.out 2
      go_wp2_with (first | ((with_reducible refine gate_callee (f := 39) rfl ?_); refine goesL_ (some 10) rfl rfl Try.func39 (by kernel_rfl) rfl #[.agg #[.string a0_0, .int .i64 a0_1, .slice A0_2 l0_2.length c0_2]] rfl (by (try simp only [List.map_toArray, List.map_cons, List.map_nil]); first | done | rfl | (simp only [List.length_drop, List.length_take]; rfl)) ?_; (with_reducible refine (wageofficeref03_Valid.calls a0_0 a0_1 _ _ l0_2 true _ ?side1 ?side2 A5.out).mono ?_); (case side1 => repeat (first | exact (Kd.C_below HR0_2.out HB.out) | (with_reducible refine Kd.C_alloc ?_ _) | (with_reducible refine Kd.C_drewN ?_ _) | (with_reducible refine Kd.C_drew ?_))); (case side2 => exact HC0_2.out); rintro e w9 ⟨rfl, hb⟩; refine ⟨_, rfl, ?_⟩; have n0_ := Aside0.mk (blk_below (g := gb273) (o := .cells #[.string a0_0, .int .i64 a0_1, .slice A0_2 l0_2.length c0_2] 24 (0, 0)) (by (with_reducible repeat (first | refine blk_drewN ?_ _ | refine blk_drew ?_ | refine blk_alloc ?_ _)); exact BK273.out) hb); have n1_ := Aside0.mk (below_step (by repeat (first | (with_reducible first | exact HB.out | apply below_alloc | apply pw_below_drewN | apply below_drew1 | refine below_set ?_ GE273.out) | exact HB.out)) hb); clear BK273; clear HB; have BK273 := n0_; have HB := n1_; clear n0_ n1_; (try clear hb); (try clear hb2); (try clear hk); (try clear hi)) | (go_at_call 55; (with_reducible refine (wageofficeref03_Day.calls a1 t275 _ A7.out).mono ?_); rintro e w' ⟨rfl, ⟨nd, rfl⟩⟩))
      go_meet
      case rel => exact ⟨_, (!t275), (by first | rfl | (simp; done) | (simp [*]; done)), H', ⟨by first | omega | exact Nat.le_refl _⟩, ⟨by (with_reducible repeat (first | refine blk_drewN ?_ _ | refine blk_drew ?_ | refine blk_alloc ?_ _)); exact BK273.out⟩, ⟨by repeat (first | (with_reducible first | exact HB.out | apply below_alloc | apply pw_below_drewN | apply below_drew1 | refine below_set ?_ GE273.out) | exact HB.out)⟩⟩
    · replace c6 := Bool.eq_false_iff.mpr c6
      subst c6
      have H1 : (wageofficeref03_Length.j0 k a1 true a0_0 a0_1 l0_2) = some r := by rw [if_neg (show ¬ (false = true) by decide)] at H; exact H
      clear H
      have H := H1
      clear H1
      have H' := Aside0.mk H
      clear H
      have hcz10_0 : w4.cell? ⟨gb273, 0, none⟩ = some (.string a0_0) := (blk_cell BK273.out 0).trans rfl
      have hcz10_1 : w4.cell? ⟨gb273, 1, none⟩ = some (.int .i64 a0_1) := (blk_cell BK273.out 1).trans rfl
      have hcz10_2 : w4.cell? ⟨gb273, 2, none⟩ = some (.slice A0_2 l0_2.length c0_2) := (blk_cell BK273.out 2).trans rfl
      have hfz10_0 := blk_frozen BK273.out 0
      have hfz10_1 := blk_frozen BK273.out 1
      have hfz10_2 := blk_frozen BK273.out 2
      go_wp2_with (first | ((with_reducible refine gate_callee (f := 39) rfl ?_); refine goesL_ (some 10) rfl rfl Try.func39 (by kernel_rfl) rfl #[.agg #[.string a0_0, .int .i64 a0_1, .slice A0_2 l0_2.length c0_2]] rfl (by (try simp only [List.map_toArray, List.map_cons, List.map_nil]); first | done | rfl | (simp only [List.length_drop, List.length_take]; rfl)) ?_; (with_reducible refine (wageofficeref03_Valid.calls a0_0 a0_1 _ _ l0_2 false _ ?side1 ?side2 A5.out).mono ?_); (case side1 => repeat (first | exact (Kd.C_below HR0_2.out HB.out) | (with_reducible refine Kd.C_alloc ?_ _) | (with_reducible refine Kd.C_drewN ?_ _) | (with_reducible refine Kd.C_drew ?_))); (case side2 => exact HC0_2.out); rintro e w11 ⟨rfl, hb⟩; refine ⟨_, rfl, ?_⟩; have n0_ := Aside0.mk (blk_below (g := gb273) (o := .cells #[.string a0_0, .int .i64 a0_1, .slice A0_2 l0_2.length c0_2] 24 (0, 0)) (by (with_reducible repeat (first | refine blk_drewN ?_ _ | refine blk_drew ?_ | refine blk_alloc ?_ _)); exact BK273.out) hb); have n1_ := Aside0.mk (below_step (by repeat (first | (with_reducible first | exact HB.out | apply below_alloc | apply pw_below_drewN | apply below_drew1 | refine below_set ?_ GE273.out) | exact HB.out)) hb); clear BK273; clear HB; have BK273 := n0_; have HB := n1_; clear n0_ n1_; (try clear hb); (try clear hb2); (try clear hk); (try clear hi)))
      go_meet
      case rel => exact ⟨_, (true), (by first | rfl | (simp; done) | (simp [*]; done)), H', ⟨by first | omega | exact Nat.le_refl _⟩, ⟨by (with_reducible repeat (first | refine blk_drewN ?_ _ | refine blk_drew ?_ | refine blk_alloc ?_ _)); exact BK273.out⟩, ⟨by repeat (first | (with_reducible first | exact HB.out | apply below_alloc | apply pw_below_drewN | apply below_drew1 | refine below_set ?_ GE273.out) | exact HB.out)⟩⟩
  case rest =>
    clear HC3
    try clear c2
    try clear p2
    try clear c3
    try clear c6
    try clear hcz10_0
    try clear hcz10_1
    try clear hcz10_2
    try clear hcz8_0
    try clear hcz8_1
    try clear hcz8_2
    try clear hfz10_0
    try clear hfz10_1
    try clear hfz10_2
    try clear hfz8_0
    try clear hfz8_1
    try clear hfz8_2
    obtain ⟨kq, x16_2, rfl, HA, HJ2, BK273, HB⟩ := hcut
    cases kq with
    | zero => exact absurd HA.out (by simp [wageofficeref03_Length.j0])
    | succ kj2 =>
      have H := HA.out
      clear HA
      simp only [wageofficeref03_Length.j0] at H
      by_cases c12 : x16_2 = true
      · subst c12
        have H1 : (some 0) = some r := by rw [if_pos rfl] at H; exact H
        clear H
        have H := H1
        clear H1
        obtain rfl := Option.some.inj H
        go_wp2
        go_ret
        exact ⟨by first | rfl | (simp [errW_none, errW_some] <;> rfl) | (simp [*, errW_none, errW_some] <;> rfl), by repeat (first | (with_reducible first | exact HB.out | apply below_alloc | apply pw_below_drewN | apply below_drew1 | refine below_set ?_ GE273.out) | exact HB.out)⟩
      · replace c12 := Bool.eq_false_iff.mpr c12
        subst c12
        have H1 : (wageofficeref03_Length.l0 kj2 a1 0 (wrap64 ((wrap64 (a1 * 1440)) - 840)) a0_0 a0_1 l0_2) = some r := by rw [if_neg (show ¬ (false = true) by decide)] at H; exact H
        clear H
        have H := H1
        clear H1
        have H' := Aside0.mk H
        clear H
        go_wp2
        go_loopg [5, 6] kj2 (fun kq v5 v6 w' => ∃ (x5_2 : Int) (x6_2 : Int), v5 = .int .i64 x5_2 ∧ v6 = .int .i64 x6_2 ∧ Aside0 (wageofficeref03_Length.l0 kq a1 x5_2 x6_2 a0_0 a0_1 l0_2 = some r) ∧ Aside0 (kq ≤ kj2) ∧ Aside0 (w'.heap[gb273]? = some (.cells #[.string a0_0, .int .i64 a0_1, (.slice A0_2 l0_2.length c0_2)] 24 (0, 0))) ∧ Aside0 (Below w.heap.size w w'))
        case atStart => exact ⟨(0), (wrap64 ((wrap64 (a1 * 1440)) - 840)), (by first | rfl | (simp; done) | (simp [*]; done)), (by first | rfl | (simp; done) | (simp [*]; done)), H', ⟨Nat.le_refl _⟩, ⟨by (with_reducible repeat (first | refine blk_drewN ?_ _ | refine blk_drew ?_ | refine blk_alloc ?_ _)); exact BK273.out⟩, ⟨by repeat (first | (with_reducible first | exact HB.out | apply below_alloc | apply pw_below_drewN | apply below_drew1 | refine below_set ?_ GE273.out) | exact HB.out)⟩⟩
        case round =>
          clear H'
          try clear c1
          try clear c2
          try clear p2
          try clear c3
          try clear c6
          try clear p6
          try clear c12
          try clear hcz10_0
          try clear hcz10_1
          try clear hcz10_2
          try clear hcz8_0
          try clear hcz8_1
          try clear hcz8_2
          try clear hfz10_0
          try clear hfz10_1
          try clear hfz10_2
          try clear hfz8_0
          try clear hfz8_1
          try clear hfz8_2
          try clear p2
          obtain ⟨x5_2, x6_2, rfl, rfl, HA, HK2, BK273, HB⟩ := hrel
          cases gk with
          | zero => exact absurd HA.out (by simp [wageofficeref03_Length.l0])
          | succ k2 =>
            have H := HA.out
            clear HA
            simp only [wageofficeref03_Length.l0] at H
            by_cases c13 : x6_2 < (wrap64 ((wrap64 ((wrap64 (a1 * 1440)) + 1440)) + 840))
            · rw [if_pos c13] at H
              have c13b0 : decide (x6_2 < (wrap64 ((wrap64 ((wrap64 (a1 * 1440)) + 1440)) + 840))) = true := decide_eq_true c13
              clear c13
              replace H := Option.bind_eq_some_iff.mp H
              obtain ⟨⟨t276, t277⟩, A140, H⟩ := H
              replace H : ((wageofficeref03_Instant.f x6_2).bind fun t278 => (if t278 = true then (if t276 = a1 then (wageofficeref03_Length.l0 k2 a1 (wrap64 (x5_2 + 1)) (wrap64 (x6_2 + 1)) a0_0 a0_1 l0_2) else (wageofficeref03_Length.l0 k2 a1 x5_2 (wrap64 (x6_2 + 1)) a0_0 a0_1 l0_2)) else (wageofficeref03_Length.l0 k2 a1 x5_2 (wrap64 (x6_2 + 1)) a0_0 a0_1 l0_2))) = some r := H
              have A14 := Aside0.mk A140
              clear A140
              replace H := Option.bind_eq_some_iff.mp H
              obtain ⟨t278, A150, H⟩ := H
              replace H : (if t278 = true then (if t276 = a1 then (wageofficeref03_Length.l0 k2 a1 (wrap64 (x5_2 + 1)) (wrap64 (x6_2 + 1)) a0_0 a0_1 l0_2) else (wageofficeref03_Length.l0 k2 a1 x5_2 (wrap64 (x6_2 + 1)) a0_0 a0_1 l0_2)) else (wageofficeref03_Length.l0 k2 a1 x5_2 (wrap64 (x6_2 + 1)) a0_0 a0_1 l0_2)) = some r := H
              have A15 := Aside0.mk A150
              clear A150
              by_cases c16 : t278 = true
              · subst c16
                have H1 : (if t276 = a1 then (wageofficeref03_Length.l0 k2 a1 (wrap64 (x5_2 + 1)) (wrap64 (x6_2 + 1)) a0_0 a0_1 l0_2) else (wageofficeref03_Length.l0 k2 a1 x5_2 (wrap64 (x6_2 + 1)) a0_0 a0_1 l0_2)) = some r := by rw [if_pos rfl] at H; exact H
                clear H
                have H := H1
                clear H1
                by_cases c17 : t276 = a1
                · rw [if_pos c17] at H
                  have c17b0 : (t276 == a1) = true := beq_iff_eq.mpr c17
                  have c17b1 : (t276 != a1) = false := bne_eq_false_iff_eq.mpr c17
                  clear c17
                  have H' := Aside0.mk H
                  clear H
                  have hcz18_0 : wr.cell? ⟨gb273, 0, none⟩ = some (.string a0_0) := (blk_cell BK273.out 0).trans rfl
                  have hcz18_1 : wr.cell? ⟨gb273, 1, none⟩ = some (.int .i64 a0_1) := (blk_cell BK273.out 1).trans rfl
                  have hcz18_2 : wr.cell? ⟨gb273, 2, none⟩ = some (.slice A0_2 l0_2.length c0_2) := (blk_cell BK273.out 2).trans rfl
                  have hfz18_0 := blk_frozen BK273.out 0
                  have hfz18_1 := blk_frozen BK273.out 1
                  have hfz18_2 := blk_frozen BK273.out 2
                  go_wp2_with (first | ((with_reducible refine gate_callee (f := 56) rfl ?_); refine goesL_ (some 31) rfl rfl Try.func56 (by kernel_rfl) rfl #[.agg #[.string a0_0, .int .i64 a0_1, .slice A0_2 l0_2.length c0_2], .int .i64 x6_2] rfl (by (try simp only [List.map_toArray, List.map_cons, List.map_nil]); first | done | rfl | (simp only [List.length_drop, List.length_take]; rfl)) ?_; (with_reducible refine (wageofficeref03_local.calls k2 a0_0 a0_1 _ _ l0_2 x6_2 t276 t277 _ ?side1 ?side2 A14.out).mono ?_); (case side1 => repeat (first | exact (Kd.C_below HR0_2.out HB.out) | (with_reducible refine Kd.C_alloc ?_ _) | (with_reducible refine Kd.C_drewN ?_ _) | (with_reducible refine Kd.C_drew ?_))); (case side2 => exact HC0_2.out); rintro e w19 ⟨rfl, hb⟩; refine ⟨_, rfl, ?_⟩; have n0_ := Aside0.mk (blk_below (g := gb273) (o := .cells #[.string a0_0, .int .i64 a0_1, .slice A0_2 l0_2.length c0_2] 24 (0, 0)) (by (with_reducible repeat (first | refine blk_drewN ?_ _ | refine blk_drew ?_ | refine blk_alloc ?_ _)); exact BK273.out) hb); have n1_ := Aside0.mk (below_step (by repeat (first | (with_reducible first | exact HB.out | apply below_alloc | apply pw_below_drewN | apply below_drew1 | refine below_set ?_ GE273.out) | exact HB.out)) hb); clear BK273; clear HB; have BK273 := n0_; have HB := n1_; clear n0_ n1_; (try clear hb); (try clear hb2); (try clear hk); (try clear hi)) | ((with_reducible refine gate_callee (f := 57) rfl ?_); refine goesL_ (some 35) rfl rfl Try.func57 (by kernel_rfl) rfl #[.int .i64 x6_2] rfl (by (try simp only [List.map_toArray, List.map_cons, List.map_nil]); first | done | rfl | (simp only [List.length_drop, List.length_take]; rfl)) ?_; (with_reducible refine (wageofficeref03_Instant.calls x6_2 true _ A15.out).mono ?_); rintro e w' ⟨rfl, ⟨nd, rfl⟩⟩; refine ⟨_, rfl, ?_⟩))
                  go_roundg k2
                  case measure => have := HJ2.out; have := HK2.out; omega
                  case rel => exact ⟨(wrap64 (x5_2 + 1)), (wrap64 (x6_2 + 1)), (by first | rfl | (simp; done) | (simp [*]; done)), (by first | rfl | (simp; done) | (simp [*]; done)), H', ⟨by have := HJ2.out; have := HK2.out; omega⟩, ⟨by (with_reducible repeat (first | refine blk_drewN ?_ _ | refine blk_drew ?_ | refine blk_alloc ?_ _)); exact BK273.out⟩, ⟨by repeat (first | (with_reducible first | exact HB.out | apply below_alloc | apply pw_below_drewN | apply below_drew1 | refine below_set ?_ GE273.out) | exact HB.out)⟩⟩
                · rw [if_neg c17] at H
                  have c17b0 : (t276 == a1) = false := beq_eq_false_iff_ne.mpr c17
                  have c17b1 : (t276 != a1) = true := bne_iff_ne.mpr c17
                  have H' := Aside0.mk H
                  clear H
                  have hcz20_0 : wr.cell? ⟨gb273, 0, none⟩ = some (.string a0_0) := (blk_cell BK273.out 0).trans rfl
                  have hcz20_1 : wr.cell? ⟨gb273, 1, none⟩ = some (.int .i64 a0_1) := (blk_cell BK273.out 1).trans rfl
                  have hcz20_2 : wr.cell? ⟨gb273, 2, none⟩ = some (.slice A0_2 l0_2.length c0_2) := (blk_cell BK273.out 2).trans rfl
                  have hfz20_0 := blk_frozen BK273.out 0
                  have hfz20_1 := blk_frozen BK273.out 1
                  have hfz20_2 := blk_frozen BK273.out 2
                  go_wp2_with (first | ((with_reducible refine gate_callee (f := 56) rfl ?_); refine goesL_ (some 31) rfl rfl Try.func56 (by kernel_rfl) rfl #[.agg #[.string a0_0, .int .i64 a0_1, .slice A0_2 l0_2.length c0_2], .int .i64 x6_2] rfl (by (try simp only [List.map_toArray, List.map_cons, List.map_nil]); first | done | rfl | (simp only [List.length_drop, List.length_take]; rfl)) ?_; (with_reducible refine (wageofficeref03_local.calls k2 a0_0 a0_1 _ _ l0_2 x6_2 t276 t277 _ ?side1 ?side2 A14.out).mono ?_); (case side1 => repeat (first | exact (Kd.C_below HR0_2.out HB.out) | (with_reducible refine Kd.C_alloc ?_ _) | (with_reducible refine Kd.C_drewN ?_ _) | (with_reducible refine Kd.C_drew ?_))); (case side2 => exact HC0_2.out); rintro e w21 ⟨rfl, hb⟩; refine ⟨_, rfl, ?_⟩; have n0_ := Aside0.mk (blk_below (g := gb273) (o := .cells #[.string a0_0, .int .i64 a0_1, .slice A0_2 l0_2.length c0_2] 24 (0, 0)) (by (with_reducible repeat (first | refine blk_drewN ?_ _ | refine blk_drew ?_ | refine blk_alloc ?_ _)); exact BK273.out) hb); have n1_ := Aside0.mk (below_step (by repeat (first | (with_reducible first | exact HB.out | apply below_alloc | apply pw_below_drewN | apply below_drew1 | refine below_set ?_ GE273.out) | exact HB.out)) hb); clear BK273; clear HB; have BK273 := n0_; have HB := n1_; clear n0_ n1_; (try clear hb); (try clear hb2); (try clear hk); (try clear hi)) | ((with_reducible refine gate_callee (f := 57) rfl ?_); refine goesL_ (some 35) rfl rfl Try.func57 (by kernel_rfl) rfl #[.int .i64 x6_2] rfl (by (try simp only [List.map_toArray, List.map_cons, List.map_nil]); first | done | rfl | (simp only [List.length_drop, List.length_take]; rfl)) ?_; (with_reducible refine (wageofficeref03_Instant.calls x6_2 true _ A15.out).mono ?_); rintro e w' ⟨rfl, ⟨nd, rfl⟩⟩; refine ⟨_, rfl, ?_⟩))
                  go_roundg k2
                  case measure => have := HJ2.out; have := HK2.out; omega
                  case rel => exact ⟨(x5_2), (wrap64 (x6_2 + 1)), (by first | rfl | (simp; done) | (simp [*]; done)), (by first | rfl | (simp; done) | (simp [*]; done)), H', ⟨by have := HJ2.out; have := HK2.out; omega⟩, ⟨by (with_reducible repeat (first | refine blk_drewN ?_ _ | refine blk_drew ?_ | refine blk_alloc ?_ _)); exact BK273.out⟩, ⟨by repeat (first | (with_reducible first | exact HB.out | apply below_alloc | apply pw_below_drewN | apply below_drew1 | refine below_set ?_ GE273.out) | exact HB.out)⟩⟩
              · replace c16 := Bool.eq_false_iff.mpr c16
                subst c16
                have H1 : (wageofficeref03_Length.l0 k2 a1 x5_2 (wrap64 (x6_2 + 1)) a0_0 a0_1 l0_2) = some r := by rw [if_neg (show ¬ (false = true) by decide)] at H; exact H
                clear H
                have H := H1
                clear H1
                have H' := Aside0.mk H
                clear H
                have hcz22_0 : wr.cell? ⟨gb273, 0, none⟩ = some (.string a0_0) := (blk_cell BK273.out 0).trans rfl
                have hcz22_1 : wr.cell? ⟨gb273, 1, none⟩ = some (.int .i64 a0_1) := (blk_cell BK273.out 1).trans rfl
                have hcz22_2 : wr.cell? ⟨gb273, 2, none⟩ = some (.slice A0_2 l0_2.length c0_2) := (blk_cell BK273.out 2).trans rfl
                have hfz22_0 := blk_frozen BK273.out 0
                have hfz22_1 := blk_frozen BK273.out 1
                have hfz22_2 := blk_frozen BK273.out 2
                go_wp2_with (first | ((with_reducible refine gate_callee (f := 56) rfl ?_); refine goesL_ (some 31) rfl rfl Try.func56 (by kernel_rfl) rfl #[.agg #[.string a0_0, .int .i64 a0_1, .slice A0_2 l0_2.length c0_2], .int .i64 x6_2] rfl (by (try simp only [List.map_toArray, List.map_cons, List.map_nil]); first | done | rfl | (simp only [List.length_drop, List.length_take]; rfl)) ?_; (with_reducible refine (wageofficeref03_local.calls k2 a0_0 a0_1 _ _ l0_2 x6_2 t276 t277 _ ?side1 ?side2 A14.out).mono ?_); (case side1 => repeat (first | exact (Kd.C_below HR0_2.out HB.out) | (with_reducible refine Kd.C_alloc ?_ _) | (with_reducible refine Kd.C_drewN ?_ _) | (with_reducible refine Kd.C_drew ?_))); (case side2 => exact HC0_2.out); rintro e w23 ⟨rfl, hb⟩; refine ⟨_, rfl, ?_⟩; have n0_ := Aside0.mk (blk_below (g := gb273) (o := .cells #[.string a0_0, .int .i64 a0_1, .slice A0_2 l0_2.length c0_2] 24 (0, 0)) (by (with_reducible repeat (first | refine blk_drewN ?_ _ | refine blk_drew ?_ | refine blk_alloc ?_ _)); exact BK273.out) hb); have n1_ := Aside0.mk (below_step (by repeat (first | (with_reducible first | exact HB.out | apply below_alloc | apply pw_below_drewN | apply below_drew1 | refine below_set ?_ GE273.out) | exact HB.out)) hb); clear BK273; clear HB; have BK273 := n0_; have HB := n1_; clear n0_ n1_; (try clear hb); (try clear hb2); (try clear hk); (try clear hi)) | ((with_reducible refine gate_callee (f := 57) rfl ?_); refine goesL_ (some 35) rfl rfl Try.func57 (by kernel_rfl) rfl #[.int .i64 x6_2] rfl (by (try simp only [List.map_toArray, List.map_cons, List.map_nil]); first | done | rfl | (simp only [List.length_drop, List.length_take]; rfl)) ?_; (with_reducible refine (wageofficeref03_Instant.calls x6_2 false _ A15.out).mono ?_); rintro e w' ⟨rfl, ⟨nd, rfl⟩⟩; refine ⟨_, rfl, ?_⟩))
                go_roundg k2
                case measure => have := HJ2.out; have := HK2.out; omega
                case rel => exact ⟨(x5_2), (wrap64 (x6_2 + 1)), (by first | rfl | (simp; done) | (simp [*]; done)), (by first | rfl | (simp; done) | (simp [*]; done)), H', ⟨by have := HJ2.out; have := HK2.out; omega⟩, ⟨by (with_reducible repeat (first | refine blk_drewN ?_ _ | refine blk_drew ?_ | refine blk_alloc ?_ _)); exact BK273.out⟩, ⟨by repeat (first | (with_reducible first | exact HB.out | apply below_alloc | apply pw_below_drewN | apply below_drew1 | refine below_set ?_ GE273.out) | exact HB.out)⟩⟩
            · rw [if_neg c13] at H
              have c13b0 : decide (x6_2 < (wrap64 ((wrap64 ((wrap64 (a1 * 1440)) + 1440)) + 840))) = false := decide_eq_false c13
              clear c13
              obtain rfl := Option.some.inj H
              go_wp2
              go_ret
              exact ⟨by first | rfl | (simp [errW_none, errW_some] <;> rfl) | (simp [*, errW_none, errW_some] <;> rfl), by repeat (first | (with_reducible first | exact HB.out | apply below_alloc | apply pw_below_drewN | apply below_drew1 | refine below_set ?_ GE273.out) | exact HB.out)⟩
end Go.Proofs.Ytnpceipoakclbaa.Q

namespace Go.Proofs.Ytnpceipoakclbaa.Q
open Go.RowKit Go.Shelf Go.Proofs.YtnpceipoakclbaaW.PrintWords Go.Proofs.YtnpceipoakclbaaW.PrintLast Go.Proofs.YtnpceipoakclbaaW.PrintMore
set_option linter.unusedVariables false
set_option linter.unusedSimpArgs false
attribute [local go_sem] Oper.semAt_some
def zone_offset.f (a0_0 : ByteArray) (a0_1 : Int) (l0_2 : List (S75)) (a1 : Int) : Option (Int) :=
  if -4611686018427387904 ≤ a1 ∧ a1 ≤ 4611686018427387904 then some ((psteps (a1 + 1) l0_2 a1 a0_1).foldl (fun _ p => p.o) a0_1) else none
set_option maxRecDepth 100000 in
set_option maxHeartbeats 2000000 in
theorem zone_offset.calls (a0_0 : ByteArray) (a0_1 : Int) (A0_2 : Option Addr) (c0_2 : Nat) (l0_2 : List (S75)) (a1 : Int) (r : Int) (w : World) (hr0_2 : Kd.C k75 w A0_2 l0_2.length l0_2) (hc0_2 : l0_2.length ≤ c0_2) (h : zone_offset.f a0_0 a0_1 l0_2 a1 = some r) :
    Calls Try.prog 60 #[.agg #[.string a0_0, .int .i64 a0_1, .slice A0_2 l0_2.length c0_2], .int .i64 a1] w fun e w' => e = .returned (.int .i64 r) ∧ Below w.heap.size w w' := by
  unfold zone_offset.f at h
  by_cases hb : -4611686018427387904 ≤ a1 ∧ a1 ≤ 4611686018427387904
  · rw [if_pos hb] at h
    obtain ⟨hb1, hb2⟩ := hb
    have HR := Lib.hid (Option.some.inj h)
    have HC := Lib.hid hr0_2
    have HL := Lib.hid hc0_2
    have eg := enters_of Try.func73 (by kernel_rfl) rfl
    have EG := Lib.hid eg
    clear h hr0_2 hc0_2 eg
    refine (callsIn_wide (n := 3)).1 ?_
    refine callsIn_of_wp_marks Try.func60 rfl trivial ?_ rfl
    simp only [Try.ntmps60, List.size_toArray, List.length_cons, List.length_nil, Nat.reduceAdd, Nat.reduceSub, Array.replicate_succ, Array.replicate_zero, List.push_toArray, List.append_toArray, List.nil_append, List.cons_append]
    gi_wp2_with (refine ⟨trivial, ?_⟩; gi_at_call 65; refine (callsIn_wide.2 (parts_calls _ _ _ _ _ _ _ _)).mono ?_; rintro e w' ⟨rfl, rfl⟩)
    have hB : Below w.heap.size w ((w.alloc (.cells #[.string a0_0, .int .i64 a0_1, .slice A0_2 l0_2.length c0_2] 24)).alloc (.cells #[.int .i64 a0_1] 3)) := below_alloc (below_alloc (Below.refl _ _) _) _
    have hb0 := World.alloc_heap_new (w.alloc (.cells #[.string a0_0, .int .i64 a0_1, .slice A0_2 l0_2.length c0_2] 24)) (.cells #[.int .i64 a0_1] 3)
    have hs : ((w.alloc (.cells #[.string a0_0, .int .i64 a0_1, .slice A0_2 l0_2.length c0_2] 24)).alloc (.cells #[.int .i64 a0_1] 3)).heap.size = w.heap.size + 2 := by simp
    rw [World.size_alloc] at hb0
    generalize hV : (w.alloc (.cells #[.string a0_0, .int .i64 a0_1, .slice A0_2 l0_2.length c0_2] 24)).alloc (.cells #[.int .i64 a0_1] 3) = V at *
    clear hV
    have hbx : Boxed (((V.alloc (.cells #[.string a0_0, .int .i64 a0_1, .slice A0_2 l0_2.length c0_2] 24)).alloc (.cells #[.int .i64 a1] 3)).alloc (.cells #[.int .i64 (a1 + 1)] 3)) (w.heap.size + 1) 3 (.int .i64 a0_1) := blk_alloc (blk_alloc (blk_alloc hb0 _) _) _
    have hB3 := below_alloc (below_alloc (below_alloc hB (.cells #[.string a0_0, .int .i64 a0_1, .slice A0_2 l0_2.length c0_2] 24)) (.cells #[.int .i64 a1] 3)) (.cells #[.int .i64 (a1 + 1)] 3)
    have HB3 := Lib.hid hB3
    have hseq := parts_seq (ty := 3) (by decide) (fr := a1) (tt := a1 + 1) (nm := a0_0) (base := a0_1) HC.out HL.out hB
    rw [hs] at hseq
    have hs3 : (((V.alloc (.cells #[.string a0_0, .int .i64 a0_1, .slice A0_2 l0_2.length c0_2] 24)).alloc (.cells #[.int .i64 a1] 3)).alloc (.cells #[.int .i64 (a1 + 1)] 3)).heap.size = w.heap.size + 5 := by simp [hs]
    have HS3 := Lib.hid hs3
    clear hs hb0 hB hB3 hs3
    refine rf_law (gf := 73) rfl EG.out hseq (fun _ => rfl) (fun k h => by rw [HS3.out]; omega) (fun k h => by rw [HS3.out]; omega) (fun k => k = w.heap.size + 1) (fun k h => ⟨by rw [HS3.out]; omega, by omega⟩)
      (fun (pre : List Pt) W => Boxed W (w.heap.size + 1) 3 (.int .i64 (pre.foldl (fun (_ : Int) (p : Pt) => p.o) a0_1))) (fun pre W W' hi hk => hk.boxed (by rw [HS3.out]; omega) hi) hbx ?round ?done
    case round =>
      intro ln pre x rest W hx hln hlt hkb hi
      have hle := hkb.size
      rw [HS3.out] at hln hle
      have HI := Lib.hid hi
      clear hkb hi hbx
      dsimp only [Pt.enc]
      gi_wp2
      refine ⟨(KB.refl _ _).alloc _, fun W2 hs2 hk2 => ?_⟩
      have hp := blk_cell (hk2.get (by show ¬ _ = _; omega) (World.alloc_heap_new W (.cells #[.int .i64 x.a, .int .i64 x.b, .int .i64 x.o] 95))) 2
      simp only [List.getElem?_toArray, List.getElem?_cons_zero, List.getElem?_cons_succ] at hp
      have HB := Lib.hid (hk2.boxed (by show ¬ _ = _; omega) (HI.out.alloc (.cells #[.int .i64 x.a, .int .i64 x.b, .int .i64 x.o] 95)))
      have cb := HB.out.cell
      have fb := HB.out.frozen
      clear hs2 hk2
      gi_wp2
      refine ⟨(KB.set1 _ _ _).mono (fun _ h _ => .inl h), ?_⟩
      rw [List.foldl_append]
      exact HB.out.set _
    case done =>
      intro D W hD hk hi hd
      have cb := hi.cell
      have HH := Lib.hid (And.intro hk (And.intro hi hd))
      rw [HS3.out] at hD
      clear hk hi hd hbx
      gi_wp2
      refine ⟨by simp, .inl ⟨_, _, rfl, run_takeDeferred HH.out.2.2, ?_⟩⟩
      refine ⟨_, results_tmp rfl _ _ _, ?_⟩
      refine ⟨by simp [HR.out], ?_⟩
      refine HB3.out.trans ?_
      refine KB.below (S := fun k => k = w.heap.size + 1 ∨ k = w.heap.size + 2 + 1) (HH.out.1.putObj (.inr (by rw [HS3.out]; omega)) _) (by rw [HS3.out]; omega) (fun k h => by omega)
  · rw [if_neg hb] at h
    exact absurd h (by simp)
end Go.Proofs.Ytnpceipoakclbaa.Q

namespace Go.Proofs.Ytnpceipoakclbaa.Q
open Go.RowKit Go.Proofs.YtnpceipoakclbaaW.PrintWords Go.Proofs.YtnpceipoakclbaaW.PrintLast Go.Proofs.YtnpceipoakclbaaW.PrintMore
attribute [local go_sem] max2_int min2_int max_two min_two max_three min_three max_four min_four   -- for this text's walks alone
set_option linter.unusedVariables false
set_option linter.unusedSimpArgs false
def wageofficelaw03_example.f  : Option (ByteArray × Int × (List (S75))) := some ((⟨#[120]⟩ : ByteArray), 60, (([(⟨5000, 120⟩ : S75), (⟨20000, 60⟩ : S75)] : List (S75))))
set_option maxHeartbeats 8000000 in
set_option maxRecDepth 100000 in
theorem wageofficelaw03_example.calls  (r1 : ByteArray) (r2 : Int) (r3 : List (S75)) (w : World) (h : wageofficelaw03_example.f  = some (r1, r2, r3)) :
    Calls Try.prog 58 #[] w fun e w' => ∃ v2_ : Value, e = .returned (.agg #[.string r1, .int .i64 r2, v2_]) ∧ Kd.R k75 75 w' w.heap.size (fun _ => True) v2_ r3 ∧ Below w.heap.size w w' := by
  have hu24 := Try.underlying24
  have hu75 := Try.underlying75
  have HB := Aside0.mk (Below.refl w.heap.size w)
  have H : (some ((⟨#[120]⟩ : ByteArray), 60, (([(⟨5000, 120⟩ : S75), (⟨20000, 60⟩ : S75)] : List (S75))))) = some (r1, r2, r3) := h
  clear h
  obtain ⟨y415, hy415⟩ : ∃ y_ : List (S75), y_ = (([(⟨5000, 120⟩ : S75), (⟨20000, 60⟩ : S75)] : List (S75))) := ⟨_, rfl⟩
  replace H : (some ((⟨#[120]⟩ : ByteArray), 60, y415)) = some (r1, r2, r3) := by first | (rw [hy415]; with_reducible exact H) | (have H2_ := (Option.bind_some _ _).symm.trans H; rw [hy415]; with_reducible exact H2_) | (have H2_ := (Option.bind_some _ _).symm.trans H; with_reducible exact H2_) | with_reducible exact H | (rw [hy415]; exact H) | exact H
  have Ny415 := Aside0.mk hy415
  clear hy415
  simp only [Option.some.injEq, Prod.mk.injEq] at H
  obtain ⟨rfl, rfl, rfl⟩ := H
  go_enter Try.func58, Try.ntmps58
  go_wp2_with (first | ((with_reducible refine gate_dst (N := 0) rfl ?_); refine box_event ?hg (N := 0) ?hd (cs := #[.string (⟨#[]⟩ : ByteArray), .int .i64 0, .slice none 0 0]) (t := 24) ?hr ?_; (case hd => rfl); (case hg => rfl); (case hr => first | (go_simp; done) | (go_simp; rfl)); intro gb414 hg w1 hbox hb; have n0_ := Aside0.mk (below_step (by repeat (first | (with_reducible first | exact HB.out | apply below_alloc | apply pw_below_drewN | apply below_drew1) | exact HB.out)) hb); have n1_ := Aside0.mk (hbox); have n2_ := Aside0.mk ((by rw [hg]; exact (below_size (by repeat (first | (with_reducible first | exact HB.out | apply below_alloc | apply pw_below_drewN | apply below_drew1) | exact HB.out))) : w.heap.size ≤ gb414)); have n3_ := Aside0.mk ((by rw [hg]; exact (below_size (by repeat (first | (with_reducible first | exact HB.out | apply below_alloc | apply pw_below_drewN | apply below_drew1) | exact HB.out))) : w.heap.size ≤ gb414)); clear HB; have HB := n0_; have BK414 := n1_; have GW414 := n2_; have GE414 := n3_; clear n0_ n1_ n2_ n3_; clear hb hbox hg) | ((with_reducible refine gate_dst (N := 3) rfl ?_); refine Kd.R_lit k75 _ 75 ?hg (N := 3) ?hd (xs := ([(⟨5000, 120⟩ : S75), (⟨20000, 60⟩ : S75)] : List (S75))) (inner := [.int .i64 5000, .int .i64 120, .int .i64 20000, .int .i64 60]) (ok := fun _ => True) (okp := fun _ => True) ?hr ?hp (fun _ hk => hk) trivial (Below.refl _ _) (Nat.le_refl _) (by simp) ?_; (case hd => rfl); (case hg => rfl); (case hr => first | (go_simp; done) | (go_simp; rfl)); (case hp => exact (Reps.c2 (show Kd.M k75 _ _ _ (⟨5000, 120⟩ : S75) [.int .i64 5000, .int .i64 120] from (k75_mkM _ _ _ (⟨5000, 120⟩ : S75) )) (Reps.c2 (show Kd.M k75 _ _ _ (⟨20000, 60⟩ : S75) [.int .i64 20000, .int .i64 60] from (k75_mkM _ _ _ (⟨20000, 60⟩ : S75) )) (Reps.none _ _)))); intro v416 w2 ho3 hb hg_ hnew_; clear hg_ hnew_; (first | rw [← Ny415.out] at ho3 | (simp only [Int.reduceToNat] at ho3; rw [← Ny415.out] at ho3)); have n0_ := Aside0.mk (Kd.R_lower ho3 (below_size (by repeat (first | (with_reducible first | exact HB.out | apply below_alloc | apply pw_below_drewN | apply below_drew1 | refine below_set ?_ GE414.out) | exact HB.out)))); have n1_ := Aside0.mk (blk_below (g := gb414) (o := .cells #[.string (⟨#[]⟩ : ByteArray), .int .i64 0, .slice none 0 0] 24 (0, 0)) (by (with_reducible repeat (first | refine blk_drewN ?_ _ | refine blk_drew ?_ | refine blk_alloc ?_ _)); exact BK414.out) hb); have n2_ := Aside0.mk (below_step (by repeat (first | (with_reducible first | exact HB.out | apply below_alloc | apply pw_below_drewN | apply below_drew1 | refine below_set ?_ GE414.out) | exact HB.out)) hb); clear BK414; clear HB; have HO417 := n0_; have BK414 := n1_; have HB := n2_; clear n0_ n1_ n2_; clear hb ho3; obtain ⟨Ao4, co4, eo4⟩ := Kd.R_slice HO417.out; subst eo4; have hcz5_0 : w2.cell? ⟨gb414, 0, none⟩ = some (.string (⟨#[]⟩ : ByteArray)) := (blk_cell BK414.out 0).trans rfl; have hcz5_1 : w2.cell? ⟨gb414, 1, none⟩ = some (.int .i64 0) := (blk_cell BK414.out 1).trans rfl; have hcz5_2 : w2.cell? ⟨gb414, 2, none⟩ = some (.slice none 0 0) := (blk_cell BK414.out 2).trans rfl; have hfz5_0 := blk_frozen BK414.out 0; have hfz5_1 := blk_frozen BK414.out 1; have hfz5_2 := blk_frozen BK414.out 2))
  refine bodyPost_ret (results_cell_row rfl _ _ gb414 24 #[.string (⟨#[120]⟩ : ByteArray), .int .i64 60, .slice Ao4 y415.length co4] (0, 0) _ rfl (by (with_reducible repeat (first | refine blk_drewN ?_ _ | refine blk_drew ?_ | refine blk_alloc ?_ _)); refine blk_put (cs := #[.string (⟨#[120]⟩ : ByteArray), .int .i64 60, .slice none 0 0]) ?_ 2 _ rfl; (with_reducible repeat (first | refine blk_drewN ?_ _ | refine blk_drew ?_ | refine blk_alloc ?_ _)); refine blk_put (cs := #[.string (⟨#[120]⟩ : ByteArray), .int .i64 0, .slice none 0 0]) ?_ 1 _ rfl; (with_reducible repeat (first | refine blk_drewN ?_ _ | refine blk_drew ?_ | refine blk_alloc ?_ _)); refine blk_put (cs := #[.string (⟨#[]⟩ : ByteArray), .int .i64 0, .slice none 0 0]) ?_ 0 _ rfl; (with_reducible repeat (first | refine blk_drewN ?_ _ | refine blk_drew ?_ | refine blk_alloc ?_ _)); exact BK414.out) Try.underlying24 rfl (by kernel_rfl)) rfl ?_
  exact ⟨_, by first | rfl | (simp [errW_none, errW_some] <;> rfl) | (simp [*, errW_none, errW_some] <;> rfl), by (with_reducible repeat (first | apply Kd.R_alloc | apply Kd.R_drewN | apply Kd.R_drew)); exact Kd.R_mono (Kd.R_far (p := ⟨gb414, 2, none⟩) (Kd.R_far (p := ⟨gb414, 1, none⟩) (Kd.R_far (p := ⟨gb414, 0, none⟩) (Kd.R_types HO417.out BK414.out (by decide)) (fun _ hk => hk.2) (.string (⟨#[120]⟩ : ByteArray))) (fun _ hk => hk.2) (.int .i64 60)) (fun _ hk => hk.2) (.slice Ao4 y415.length co4)) (fun _ hk => trivial), by repeat (first | (with_reducible first | exact HB.out | apply below_alloc | apply pw_below_drewN | apply below_drew1 | refine below_set ?_ GE414.out) | exact HB.out)⟩
def zone_Local.j0 : Nat → Int → Bool → ByteArray → Int → List (S75) → Option (Int × Int × Int)
  | 0, _, _, _, _, _ => none
  | k + 1, x1, x16, x419000, x419001, x419002 => if x16 = true then (some (0, 0, 1)) else ((zone_offset.f x419000 x419001 x419002 x1).bind fun t421 => ((zone_dayOf.f (wrap64 (x1 + t421))).bind fun t422 => ((zone_between.f t422 0 36524).bind fun t423 => (if t423 = true then (some (t422, wrap64 ((wrap64 (x1 + t421)) - (wrap64 (t422 * 1440))), 0)) else (some (0, 0, 21))))))
def zone_Local.f (k : Nat) (a0_0 : ByteArray) (a0_1 : Int) (l0_2 : List (S75)) (a1 : Int) : Option (Int × Int × Int) := (zone_between.f a1 0 52595999).bind fun t419 => (if t419 = true then ((zone_Valid.f k a0_0 a0_1 l0_2).bind fun t420 => (zone_Local.j0 k a1 (!t420) a0_0 a0_1 l0_2)) else (zone_Local.j0 k a1 true a0_0 a0_1 l0_2))
theorem zone_Local.mono_l : ∀ k, (∀ y0 y1 y2 y3 y4, LeO (zone_Local.j0 k y0 y1 y2 y3 y4) (zone_Local.j0 (k + 1) y0 y1 y2 y3 y4))
  | 0 => fun _ _ _ _ _ r h => by simp [zone_Local.j0] at h
  | k + 1 => by
    have ih0 := zone_Local.mono_l k
    · intro y0 y1 y2 y3 y4
      unfold zone_Local.j0
      repeat' first
      | (with_reducible exact ih0 _ _ _ _ _)
      | (with_reducible exact zone_Valid.mono _ _ _ _)
      | (with_reducible exact LeO.refl _)
      | (with_reducible exact LeO.none _)
      | (with_reducible refine LeO.ite ?_ ?_)
      | (with_reducible refine LeO.bind ?_ (fun _ => ?_))
      | exact ih0 _ _ _ _ _
      | exact zone_Valid.mono _ _ _ _
      | exact LeO.none _
      | refine LeO.ite ?_ ?_
      | refine LeO.bind ?_ (fun _ => ?_)
theorem zone_Local.mono : ∀ a0 a1 a2 a3 k, LeO (zone_Local.f k a0 a1 a2 a3) (zone_Local.f (k + 1) a0 a1 a2 a3) := by
  intro a0 a1 a2 a3 k
  have ih0 := zone_Local.mono_l k
  unfold zone_Local.f
  repeat' first
      | (with_reducible exact ih0 _ _ _ _ _)
      | (with_reducible exact zone_Valid.mono _ _ _ _)
      | (with_reducible exact LeO.refl _)
      | (with_reducible exact LeO.none _)
      | (with_reducible refine LeO.ite ?_ ?_)
      | (with_reducible refine LeO.bind ?_ (fun _ => ?_))
      | exact ih0 _ _ _ _ _
      | exact zone_Valid.mono _ _ _ _
      | exact LeO.none _
      | refine LeO.ite ?_ ?_
      | refine LeO.bind ?_ (fun _ => ?_)
set_option maxHeartbeats 8000000 in
set_option maxRecDepth 100000 in
theorem zone_Local.calls (k : Nat) (a0_0 : ByteArray) (a0_1 : Int) (A0_2 : Option Addr) (c0_2 : Nat) (l0_2 : List (S75)) (a1 : Int) (r1 : Int) (r2 : Int) (r3 : Int) (w : World) (hr0_2 : Kd.C k75 w A0_2 l0_2.length l0_2) (hc0_2 : l0_2.length ≤ c0_2) (h : zone_Local.f k a0_0 a0_1 l0_2 a1 = some (r1, r2, r3)) :
    Calls Try.prog 36 #[.agg #[.string a0_0, .int .i64 a0_1, .slice A0_2 l0_2.length c0_2], .int .i64 a1] w fun e w' => e = .returned (.tuple #[.int .i64 r1, .int .i64 r2, .int .i64 r3]) ∧ Below w.heap.size w w' := by
  have hu24 := Try.underlying24
  have HR0_2 := Aside0.mk hr0_2
  have HC0_2 := Aside0.mk hc0_2
  clear hr0_2 hc0_2
  have HB := Aside0.mk (Below.refl w.heap.size w)
  have H : ((zone_between.f a1 0 52595999).bind fun t419 => (if t419 = true then ((zone_Valid.f k a0_0 a0_1 l0_2).bind fun t420 => (zone_Local.j0 k a1 (!t420) a0_0 a0_1 l0_2)) else (zone_Local.j0 k a1 true a0_0 a0_1 l0_2))) = some (r1, r2, r3) := h
  clear h
  have HC3 := Aside0.mk H
  clear H
  go_enter Try.func36, Try.ntmps36
  go_upto_region 1 with (first | ((with_reducible refine gate_dst (N := 2) rfl ?_); refine box_event ?hg (N := 2) ?hd (cs := #[.string a0_0, .int .i64 a0_1, .slice A0_2 l0_2.length c0_2]) (t := 24) ?hr ?_; (case hd => rfl); (case hg => rfl); (case hr => first | (go_simp; done) | (go_simp; rfl)); intro gb418 hg w4 hbox hb; have n0_ := Aside0.mk (below_step (by repeat (first | (with_reducible first | exact HB.out | apply below_alloc | apply pw_below_drewN | apply below_drew1) | exact HB.out)) hb); have n1_ := Aside0.mk (hbox); have n2_ := Aside0.mk ((by rw [hg]; exact (below_size (by repeat (first | (with_reducible first | exact HB.out | apply below_alloc | apply pw_below_drewN | apply below_drew1) | exact HB.out))) : w.heap.size ≤ gb418)); have n3_ := Aside0.mk ((by rw [hg]; exact (below_size (by repeat (first | (with_reducible first | exact HB.out | apply below_alloc | apply pw_below_drewN | apply below_drew1) | exact HB.out))) : w.heap.size ≤ gb418)); clear HB; have HB := n0_; have BK418 := n1_; have GW418 := n2_; have GE418 := n3_; clear n0_ n1_ n2_ n3_; clear hb hbox hg))
  (try simp only [Act.put, List.setIfInBounds_toArray, List.set_cons_zero, List.set_cons_succ])
  go_cut [16] (fun v16 wc => ∃ (kq : Nat) (x16_2 : Bool), v16 = .bool x16_2 ∧ Aside0 (zone_Local.j0 kq a1 x16_2 a0_0 a0_1 l0_2 = some (r1, r2, r3)) ∧ Aside0 (kq ≤ k) ∧ Aside0 (wc.heap[gb418]? = some (.cells #[.string a0_0, .int .i64 a0_1, (.slice A0_2 l0_2.length c0_2)] 24 (0, 0))) ∧ Aside0 (Below w.heap.size w wc))
  case first =>
    have H := HC3.out
    clear HC3
    replace H := Option.bind_eq_some_iff.mp H
    obtain ⟨t419, A50, H⟩ := H
    replace H : (if t419 = true then ((zone_Valid.f k a0_0 a0_1 l0_2).bind fun t420 => (zone_Local.j0 k a1 (!t420) a0_0 a0_1 l0_2)) else (zone_Local.j0 k a1 true a0_0 a0_1 l0_2)) = some (r1, r2, r3) := H
    have A5 := Aside0.mk A50
    clear A50
    by_cases c6 : t419 = true
    · subst c6
      have H1 : ((zone_Valid.f k a0_0 a0_1 l0_2).bind fun t420 => (zone_Local.j0 k a1 (!t420) a0_0 a0_1 l0_2)) = some (r1, r2, r3) := by rw [if_pos rfl] at H; exact H
      clear H
      have H := H1
      clear H1
      replace H := Option.bind_eq_some_iff.mp H
      obtain ⟨t420, A70, H⟩ := H
      replace H : (zone_Local.j0 k a1 (!t420) a0_0 a0_1 l0_2) = some (r1, r2, r3) := H
      have A7 := Aside0.mk A70
      clear A70
      have H' := Aside0.mk H
      clear H
      go_wp2_with (first | ((with_reducible refine gate_callee (f := 59) rfl ?_); refine goesL_ (some 10) rfl rfl Try.func59 (by kernel_rfl) rfl #[.int .i64 a1, .int .i64 0, .int .i64 52595999] rfl (by (try simp only [List.map_toArray, List.map_cons, List.map_nil]); first | done | rfl | (simp only [List.length_drop, List.length_take]; rfl)) ?_; (with_reducible refine (zone_between.calls a1 0 52595999 true _ A5.out).mono ?_); rintro e w' ⟨rfl, ⟨nd, rfl⟩⟩; refine ⟨_, rfl, ?_⟩; have hcz8_0 : w4.cell? ⟨gb418, 0, none⟩ = some (.string a0_0) := (blk_cell BK418.out 0).trans rfl; have hcz8_1 : w4.cell? ⟨gb418, 1, none⟩ = some (.int .i64 a0_1) := (blk_cell BK418.out 1).trans rfl; have hcz8_2 : w4.cell? ⟨gb418, 2, none⟩ = some (.slice A0_2 l0_2.length c0_2) := (blk_cell BK418.out 2).trans rfl; have hfz8_0 := blk_frozen BK418.out 0; have hfz8_1 := blk_frozen BK418.out 1; have hfz8_2 := blk_frozen BK418.out 2) | (go_at_call 38; (with_reducible refine (zone_Valid.calls k a0_0 a0_1 _ _ l0_2 t420 _ ?side1 ?side2 A7.out).mono ?_); (case side1 => repeat (first | exact (Kd.C_below HR0_2.out (by repeat (first | (with_reducible first | exact HB.out | apply below_alloc | apply pw_below_drewN | apply below_drew1 | refine below_set ?_ GE418.out) | exact HB.out))) | (with_reducible refine Kd.C_alloc ?_ _) | (with_reducible refine Kd.C_drewN ?_ _) | (with_reducible refine Kd.C_drew ?_))); (case side2 => exact HC0_2.out); rintro e w9 ⟨rfl, hb⟩; have n0_ := Aside0.mk (blk_below (g := gb418) (o := .cells #[.string a0_0, .int .i64 a0_1, .slice A0_2 l0_2.length c0_2] 24 (0, 0)) (by (with_reducible repeat (first | refine blk_drewN ?_ _ | refine blk_drew ?_ | refine blk_alloc ?_ _)); exact BK418.out) hb); have n1_ := Aside0.mk (below_step (by repeat (first | (with_reducible first | exact HB.out | apply below_alloc | apply pw_below_drewN | apply below_drew1 | refine below_set ?_ GE418.out) | exact HB.out)) hb); clear BK418; clear HB; have BK418 := n0_; have HB := n1_; clear n0_ n1_; (try clear hb); (try clear hb2); (try clear hk); (try clear hi)))
      go_meet
      case rel => exact ⟨_, (!t420), (by first | rfl | (simp; done) | (simp [*]; done)), H', ⟨by first | omega | exact Nat.le_refl _⟩, ⟨by (with_reducible repeat (first | refine blk_drewN ?_ _ | refine blk_drew ?_ | refine blk_alloc ?_ _)); exact BK418.out⟩, ⟨by repeat (first | (with_reducible first | exact HB.out | apply below_alloc | apply pw_below_drewN | apply below_drew1 | refine below_set ?_ GE418.out) | exact HB.out)⟩⟩
    · replace c6 := Bool.eq_false_iff.mpr c6
      subst c6
      have H1 : (zone_Local.j0 k a1 true a0_0 a0_1 l0_2) = some (r1, r2, r3) := by rw [if_neg (show ¬ (false = true) by decide)] at H; exact H
      clear H
      have H := H1
      clear H1
      have H' := Aside0.mk H
      clear H
      go_wp2_with (first | ((with_reducible refine gate_callee (f := 59) rfl ?_); refine goesL_ (some 10) rfl rfl Try.func59 (by kernel_rfl) rfl #[.int .i64 a1, .int .i64 0, .int .i64 52595999] rfl (by (try simp only [List.map_toArray, List.map_cons, List.map_nil]); first | done | rfl | (simp only [List.length_drop, List.length_take]; rfl)) ?_; (with_reducible refine (zone_between.calls a1 0 52595999 false _ A5.out).mono ?_); rintro e w' ⟨rfl, ⟨nd, rfl⟩⟩; refine ⟨_, rfl, ?_⟩))
      go_meet
      case rel => exact ⟨_, (true), (by first | rfl | (simp; done) | (simp [*]; done)), H', ⟨by first | omega | exact Nat.le_refl _⟩, ⟨by (with_reducible repeat (first | refine blk_drewN ?_ _ | refine blk_drew ?_ | refine blk_alloc ?_ _)); exact BK418.out⟩, ⟨by repeat (first | (with_reducible first | exact HB.out | apply below_alloc | apply pw_below_drewN | apply below_drew1 | refine below_set ?_ GE418.out) | exact HB.out)⟩⟩
  case rest =>
    clear HC3
    try clear p2
    try clear c3
    try clear c5
    try clear c6
    try clear hcz8_0
    try clear hcz8_1
    try clear hcz8_2
    try clear hfz8_0
    try clear hfz8_1
    try clear hfz8_2
    obtain ⟨kq, x16_2, rfl, HA, HJ2, BK418, HB⟩ := hcut
    cases kq with
    | zero => exact absurd HA.out (by simp [zone_Local.j0])
    | succ kj2 =>
      have H := HA.out
      clear HA
      simp only [zone_Local.j0] at H
      by_cases c10 : x16_2 = true
      · subst c10
        have H1 : (some (0, 0, 1)) = some (r1, r2, r3) := by rw [if_pos rfl] at H; exact H
        clear H
        have H := H1
        clear H1
        simp only [Option.some.injEq, Prod.mk.injEq] at H
        obtain ⟨rfl, rfl, rfl⟩ := H
        go_wp2
        go_ret3
        exact ⟨by first | rfl | (simp [errW_none, errW_some] <;> rfl) | (simp [*, errW_none, errW_some] <;> rfl), by repeat (first | (with_reducible first | exact HB.out | apply below_alloc | apply pw_below_drewN | apply below_drew1 | refine below_set ?_ GE418.out) | exact HB.out)⟩
      · replace c10 := Bool.eq_false_iff.mpr c10
        subst c10
        have H1 : ((zone_offset.f a0_0 a0_1 l0_2 a1).bind fun t421 => ((zone_dayOf.f (wrap64 (a1 + t421))).bind fun t422 => ((zone_between.f t422 0 36524).bind fun t423 => (if t423 = true then (some (t422, wrap64 ((wrap64 (a1 + t421)) - (wrap64 (t422 * 1440))), 0)) else (some (0, 0, 21)))))) = some (r1, r2, r3) := by rw [if_neg (show ¬ (false = true) by decide)] at H; exact H
        clear H
        have H := H1
        clear H1
        replace H := Option.bind_eq_some_iff.mp H
        obtain ⟨t421, A110, H⟩ := H
        replace H : ((zone_dayOf.f (wrap64 (a1 + t421))).bind fun t422 => ((zone_between.f t422 0 36524).bind fun t423 => (if t423 = true then (some (t422, wrap64 ((wrap64 (a1 + t421)) - (wrap64 (t422 * 1440))), 0)) else (some (0, 0, 21))))) = some (r1, r2, r3) := H
        have A11 := Aside0.mk A110
        clear A110
        replace H := Option.bind_eq_some_iff.mp H
        obtain ⟨t422, A120, H⟩ := H
        replace H : ((zone_between.f t422 0 36524).bind fun t423 => (if t423 = true then (some (t422, wrap64 ((wrap64 (a1 + t421)) - (wrap64 (t422 * 1440))), 0)) else (some (0, 0, 21)))) = some (r1, r2, r3) := H
        have A12 := Aside0.mk A120
        clear A120
        replace H := Option.bind_eq_some_iff.mp H
        obtain ⟨t423, A130, H⟩ := H
        replace H : (if t423 = true then (some (t422, wrap64 ((wrap64 (a1 + t421)) - (wrap64 (t422 * 1440))), 0)) else (some (0, 0, 21))) = some (r1, r2, r3) := H
        have A13 := Aside0.mk A130
        clear A130
        by_cases c14 : t423 = true
        · subst c14
          have H1 : (some (t422, wrap64 ((wrap64 (a1 + t421)) - (wrap64 (t422 * 1440))), 0)) = some (r1, r2, r3) := by rw [if_pos rfl] at H; exact H
          clear H
          have H := H1
          clear H1
          simp only [Option.some.injEq, Prod.mk.injEq] at H
          obtain ⟨rfl, rfl, rfl⟩ := H
          have hcz15_0 : wc.cell? ⟨gb418, 0, none⟩ = some (.string a0_0) := (blk_cell BK418.out 0).trans rfl
          have hcz15_1 : wc.cell? ⟨gb418, 1, none⟩ = some (.int .i64 a0_1) := (blk_cell BK418.out 1).trans rfl
          have hcz15_2 : wc.cell? ⟨gb418, 2, none⟩ = some (.slice A0_2 l0_2.length c0_2) := (blk_cell BK418.out 2).trans rfl
          have hfz15_0 := blk_frozen BK418.out 0
          have hfz15_1 := blk_frozen BK418.out 1
          have hfz15_2 := blk_frozen BK418.out 2
          go_wp2_with (first | ((with_reducible refine gate_callee (f := 60) rfl ?_); refine goesL_ (some 20) rfl rfl Try.func60 (by kernel_rfl) rfl #[.agg #[.string a0_0, .int .i64 a0_1, .slice A0_2 l0_2.length c0_2], .int .i64 a1] rfl (by (try simp only [List.map_toArray, List.map_cons, List.map_nil]); first | done | rfl | (simp only [List.length_drop, List.length_take]; rfl)) ?_; (with_reducible refine (zone_offset.calls a0_0 a0_1 _ _ l0_2 a1 t421 _ ?side1 ?side2 A11.out).mono ?_); (case side1 => repeat (first | exact (Kd.C_below HR0_2.out HB.out) | (with_reducible refine Kd.C_alloc ?_ _) | (with_reducible refine Kd.C_drewN ?_ _) | (with_reducible refine Kd.C_drew ?_))); (case side2 => exact HC0_2.out); rintro e w16 ⟨rfl, hb⟩; refine ⟨_, rfl, ?_⟩; have n0_ := Aside0.mk (blk_below (g := gb418) (o := .cells #[.string a0_0, .int .i64 a0_1, .slice A0_2 l0_2.length c0_2] 24 (0, 0)) (by (with_reducible repeat (first | refine blk_drewN ?_ _ | refine blk_drew ?_ | refine blk_alloc ?_ _)); exact BK418.out) hb); have n1_ := Aside0.mk (below_step (by repeat (first | (with_reducible first | exact HB.out | apply below_alloc | apply pw_below_drewN | apply below_drew1 | refine below_set ?_ GE418.out) | exact HB.out)) hb); clear BK418; clear HB; have BK418 := n0_; have HB := n1_; clear n0_ n1_; (try clear hb); (try clear hb2); (try clear hk); (try clear hi)) | ((with_reducible refine gate_callee (f := 61) rfl ?_); refine goesL_ (some 23) rfl rfl Try.func61 (by kernel_rfl) rfl #[.int .i64 (wrap64 (a1 + t421))] rfl (by (try simp only [List.map_toArray, List.map_cons, List.map_nil]); first | done | rfl | (simp only [List.length_drop, List.length_take]; rfl)) ?_; (with_reducible refine (zone_dayOf.calls (wrap64 (a1 + t421)) t422 _ A12.out).mono ?_); rintro e w' ⟨rfl, ⟨nd, rfl⟩⟩; refine ⟨_, rfl, ?_⟩) | ((with_reducible refine gate_callee (f := 59) rfl ?_); refine goesL_ (some 25) rfl rfl Try.func59 (by kernel_rfl) rfl #[.int .i64 t422, .int .i64 0, .int .i64 36524] rfl (by (try simp only [List.map_toArray, List.map_cons, List.map_nil]); first | done | rfl | (simp only [List.length_drop, List.length_take]; rfl)) ?_; (with_reducible refine (zone_between.calls t422 0 36524 true _ A13.out).mono ?_); rintro e w' ⟨rfl, ⟨nd, rfl⟩⟩; refine ⟨_, rfl, ?_⟩))
          go_ret3
          exact ⟨by first | rfl | (simp [errW_none, errW_some] <;> rfl) | (simp [*, errW_none, errW_some] <;> rfl), by repeat (first | (with_reducible first | exact HB.out | apply below_alloc | apply pw_below_drewN | apply below_drew1 | refine below_set ?_ GE418.out) | exact HB.out)⟩
        · replace c14 := Bool.eq_false_iff.mpr c14
          subst c14
          have H1 : (some (0, 0, 21)) = some (r1, r2, r3) := by rw [if_neg (show ¬ (false = true) by decide)] at H; exact H
          clear H
          have H := H1
          clear H1
          simp only [Option.some.injEq, Prod.mk.injEq] at H
          obtain ⟨rfl, rfl, rfl⟩ := H
          have hcz17_0 : wc.cell? ⟨gb418, 0, none⟩ = some (.string a0_0) := (blk_cell BK418.out 0).trans rfl
          have hcz17_1 : wc.cell? ⟨gb418, 1, none⟩ = some (.int .i64 a0_1) := (blk_cell BK418.out 1).trans rfl
          have hcz17_2 : wc.cell? ⟨gb418, 2, none⟩ = some (.slice A0_2 l0_2.length c0_2) := (blk_cell BK418.out 2).trans rfl
          have hfz17_0 := blk_frozen BK418.out 0
          have hfz17_1 := blk_frozen BK418.out 1
          have hfz17_2 := blk_frozen BK418.out 2
          go_wp2_with (first | ((with_reducible refine gate_callee (f := 60) rfl ?_); refine goesL_ (some 20) rfl rfl Try.func60 (by kernel_rfl) rfl #[.agg #[.string a0_0, .int .i64 a0_1, .slice A0_2 l0_2.length c0_2], .int .i64 a1] rfl (by (try simp only [List.map_toArray, List.map_cons, List.map_nil]); first | done | rfl | (simp only [List.length_drop, List.length_take]; rfl)) ?_; (with_reducible refine (zone_offset.calls a0_0 a0_1 _ _ l0_2 a1 t421 _ ?side1 ?side2 A11.out).mono ?_); (case side1 => repeat (first | exact (Kd.C_below HR0_2.out HB.out) | (with_reducible refine Kd.C_alloc ?_ _) | (with_reducible refine Kd.C_drewN ?_ _) | (with_reducible refine Kd.C_drew ?_))); (case side2 => exact HC0_2.out); rintro e w18 ⟨rfl, hb⟩; refine ⟨_, rfl, ?_⟩; have n0_ := Aside0.mk (blk_below (g := gb418) (o := .cells #[.string a0_0, .int .i64 a0_1, .slice A0_2 l0_2.length c0_2] 24 (0, 0)) (by (with_reducible repeat (first | refine blk_drewN ?_ _ | refine blk_drew ?_ | refine blk_alloc ?_ _)); exact BK418.out) hb); have n1_ := Aside0.mk (below_step (by repeat (first | (with_reducible first | exact HB.out | apply below_alloc | apply pw_below_drewN | apply below_drew1 | refine below_set ?_ GE418.out) | exact HB.out)) hb); clear BK418; clear HB; have BK418 := n0_; have HB := n1_; clear n0_ n1_; (try clear hb); (try clear hb2); (try clear hk); (try clear hi)) | ((with_reducible refine gate_callee (f := 61) rfl ?_); refine goesL_ (some 23) rfl rfl Try.func61 (by kernel_rfl) rfl #[.int .i64 (wrap64 (a1 + t421))] rfl (by (try simp only [List.map_toArray, List.map_cons, List.map_nil]); first | done | rfl | (simp only [List.length_drop, List.length_take]; rfl)) ?_; (with_reducible refine (zone_dayOf.calls (wrap64 (a1 + t421)) t422 _ A12.out).mono ?_); rintro e w' ⟨rfl, ⟨nd, rfl⟩⟩; refine ⟨_, rfl, ?_⟩) | ((with_reducible refine gate_callee (f := 59) rfl ?_); refine goesL_ (some 25) rfl rfl Try.func59 (by kernel_rfl) rfl #[.int .i64 t422, .int .i64 0, .int .i64 36524] rfl (by (try simp only [List.map_toArray, List.map_cons, List.map_nil]); first | done | rfl | (simp only [List.length_drop, List.length_take]; rfl)) ?_; (with_reducible refine (zone_between.calls t422 0 36524 false _ A13.out).mono ?_); rintro e w' ⟨rfl, ⟨nd, rfl⟩⟩; refine ⟨_, rfl, ?_⟩))
          go_ret3
          exact ⟨by first | rfl | (simp [errW_none, errW_some] <;> rfl) | (simp [*, errW_none, errW_some] <;> rfl), by repeat (first | (with_reducible first | exact HB.out | apply below_alloc | apply pw_below_drewN | apply below_drew1 | refine below_set ?_ GE418.out) | exact HB.out)⟩
def zone_Offset.l0 : Nat → Int → Int → List (S75) → Int → Int → Option (Int)
  | 0, _, _, _, _, _ => none
  | k + 1, x1, x5, x14, x15, x16 => if x16 < x15 then (if 0 ≤ x16 then (if x16 < (x14.length : Int) then (if ((rd_T75 x14 x16).f0) ≤ x1 then (zone_Offset.l0 k x1 ((rd_T75 x14 x16).f1) x14 x15 (wrap64 (x16 + 1))) else (zone_Offset.l0 k x1 x5 x14 x15 (wrap64 (x16 + 1)))) else (none)) else (none)) else (some x5)
def zone_Offset.f (k : Nat) (a0_0 : ByteArray) (a0_1 : Int) (l0_2 : List (S75)) (a1 : Int) : Option (Int) := (zone_Valid.f k a0_0 a0_1 l0_2).bind fun t425 => (if t425 = true then (zone_Offset.l0 k a1 a0_1 l0_2 (l0_2.length : Int) 0) else (some 0))
theorem zone_Offset.mono_l : ∀ k, (∀ y0 y1 y2 y3 y4, LeO (zone_Offset.l0 k y0 y1 y2 y3 y4) (zone_Offset.l0 (k + 1) y0 y1 y2 y3 y4))
  | 0 => fun _ _ _ _ _ r h => by simp [zone_Offset.l0] at h
  | k + 1 => by
    have ih0 := zone_Offset.mono_l k
    · intro y0 y1 y2 y3 y4
      unfold zone_Offset.l0
      repeat' first
      | (with_reducible exact ih0 _ _ _ _ _)
      | (with_reducible exact zone_Valid.mono _ _ _ _)
      | (with_reducible exact LeO.refl _)
      | (with_reducible exact LeO.none _)
      | (with_reducible refine LeO.ite ?_ ?_)
      | (with_reducible refine LeO.bind ?_ (fun _ => ?_))
      | exact ih0 _ _ _ _ _
      | exact zone_Valid.mono _ _ _ _
      | exact LeO.none _
      | refine LeO.ite ?_ ?_
      | refine LeO.bind ?_ (fun _ => ?_)
theorem zone_Offset.mono : ∀ a0 a1 a2 a3 k, LeO (zone_Offset.f k a0 a1 a2 a3) (zone_Offset.f (k + 1) a0 a1 a2 a3) := by
  intro a0 a1 a2 a3 k
  have ih0 := zone_Offset.mono_l k
  unfold zone_Offset.f
  repeat' first
      | (with_reducible exact ih0 _ _ _ _ _)
      | (with_reducible exact zone_Valid.mono _ _ _ _)
      | (with_reducible exact LeO.refl _)
      | (with_reducible exact LeO.none _)
      | (with_reducible refine LeO.ite ?_ ?_)
      | (with_reducible refine LeO.bind ?_ (fun _ => ?_))
      | exact ih0 _ _ _ _ _
      | exact zone_Valid.mono _ _ _ _
      | exact LeO.none _
      | refine LeO.ite ?_ ?_
      | refine LeO.bind ?_ (fun _ => ?_)
set_option maxHeartbeats 8000000 in
set_option maxRecDepth 100000 in
theorem zone_Offset.calls (k : Nat) (a0_0 : ByteArray) (a0_1 : Int) (A0_2 : Option Addr) (c0_2 : Nat) (l0_2 : List (S75)) (a1 : Int) (r : Int) (w : World) (hr0_2 : Kd.C k75 w A0_2 l0_2.length l0_2) (hc0_2 : l0_2.length ≤ c0_2) (h : zone_Offset.f k a0_0 a0_1 l0_2 a1 = some r) :
    Calls Try.prog 40 #[.agg #[.string a0_0, .int .i64 a0_1, .slice A0_2 l0_2.length c0_2], .int .i64 a1] w fun e w' => e = .returned (.int .i64 r) ∧ Below w.heap.size w w' := by
  have hu24 := Try.underlying24
  have hu75 := Try.underlying75
  have HR0_2 := Aside0.mk hr0_2
  have HC0_2 := Aside0.mk hc0_2
  clear hr0_2 hc0_2
  have HB := Aside0.mk (Below.refl w.heap.size w)
  have H : ((zone_Valid.f k a0_0 a0_1 l0_2).bind fun t425 => (if t425 = true then (zone_Offset.l0 k a1 a0_1 l0_2 (l0_2.length : Int) 0) else (some 0))) = some r := h
  clear h
  replace H := Option.bind_eq_some_iff.mp H
  obtain ⟨t425, A30, H⟩ := H
  replace H : (if t425 = true then (zone_Offset.l0 k a1 a0_1 l0_2 (l0_2.length : Int) 0) else (some 0)) = some r := H
  have A3 := Aside0.mk A30
  clear A30
  by_cases c4 : t425 = true
  · subst c4
    have H1 : (zone_Offset.l0 k a1 a0_1 l0_2 (l0_2.length : Int) 0) = some r := by rw [if_pos rfl] at H; exact H
    clear H
    have H := H1
    clear H1
    have H' := Aside0.mk H
    clear H
    go_enter Try.func40, Try.ntmps40
    go_wp2_with (first | ((with_reducible refine gate_dst (N := 2) rfl ?_); refine box_event ?hg (N := 2) ?hd (cs := #[.string a0_0, .int .i64 a0_1, .slice A0_2 l0_2.length c0_2]) (t := 24) ?hr ?_; (case hd => rfl); (case hg => rfl); (case hr => first | (go_simp; done) | (go_simp; rfl)); intro gb424 hg w5 hbox hb; have n0_ := Aside0.mk (below_step (by repeat (first | (with_reducible first | exact HB.out | apply below_alloc | apply pw_below_drewN | apply below_drew1) | exact HB.out)) hb); have n1_ := Aside0.mk (hbox); have n2_ := Aside0.mk ((by rw [hg]; exact (below_size (by repeat (first | (with_reducible first | exact HB.out | apply below_alloc | apply pw_below_drewN | apply below_drew1) | exact HB.out))) : w.heap.size ≤ gb424)); have n3_ := Aside0.mk ((by rw [hg]; exact (below_size (by repeat (first | (with_reducible first | exact HB.out | apply below_alloc | apply pw_below_drewN | apply below_drew1) | exact HB.out))) : w.heap.size ≤ gb424)); clear HB; have HB := n0_; have BK424 := n1_; have GW424 := n2_; have GE424 := n3_; clear n0_ n1_ n2_ n3_; clear hb hbox hg; have hcz6_0 : w5.cell? ⟨gb424, 0, none⟩ = some (.string a0_0) := (blk_cell BK424.out 0).trans rfl; have hcz6_1 : w5.cell? ⟨gb424, 1, none⟩ = some (.int .i64 a0_1) := (blk_cell BK424.out 1).trans rfl; have hcz6_2 : w5.cell? ⟨gb424, 2, none⟩ = some (.slice A0_2 l0_2.length c0_2) := (blk_cell BK424.out 2).trans rfl; have hfz6_0 := blk_frozen BK424.out 0; have hfz6_1 := blk_frozen BK424.out 1; have hfz6_2 := blk_frozen BK424.out 2) | ((with_reducible refine gate_callee (f := 38) rfl ?_); refine goesL_ (some 9) rfl rfl Try.func38 (by kernel_rfl) rfl #[.agg #[.string a0_0, .int .i64 a0_1, .slice A0_2 l0_2.length c0_2]] rfl (by (try simp only [List.map_toArray, List.map_cons, List.map_nil]); first | done | rfl | (simp only [List.length_drop, List.length_take]; rfl)) ?_; (with_reducible refine (zone_Valid.calls k a0_0 a0_1 _ _ l0_2 true _ ?side1 ?side2 A3.out).mono ?_); (case side1 => repeat (first | exact (Kd.C_below HR0_2.out HB.out) | (with_reducible refine Kd.C_alloc ?_ _) | (with_reducible refine Kd.C_drewN ?_ _) | (with_reducible refine Kd.C_drew ?_))); (case side2 => exact HC0_2.out); rintro e w7 ⟨rfl, hb⟩; refine ⟨_, rfl, ?_⟩; have n0_ := Aside0.mk (blk_below (g := gb424) (o := .cells #[.string a0_0, .int .i64 a0_1, .slice A0_2 l0_2.length c0_2] 24 (0, 0)) (by (with_reducible repeat (first | refine blk_drewN ?_ _ | refine blk_drew ?_ | refine blk_alloc ?_ _)); exact BK424.out) hb); have n1_ := Aside0.mk (below_step (by repeat (first | (with_reducible first | exact HB.out | apply below_alloc | apply pw_below_drewN | apply below_drew1 | refine below_set ?_ GE424.out) | exact HB.out)) hb); clear BK424; clear HB; have BK424 := n0_; have HB := n1_; clear n0_ n1_; (try clear hb); (try clear hb2); (try clear hk); (try clear hi); have hcz8_0 : w7.cell? ⟨gb424, 0, none⟩ = some (.string a0_0) := (blk_cell BK424.out 0).trans rfl; have hcz8_1 : w7.cell? ⟨gb424, 1, none⟩ = some (.int .i64 a0_1) := (blk_cell BK424.out 1).trans rfl; have hcz8_2 : w7.cell? ⟨gb424, 2, none⟩ = some (.slice A0_2 l0_2.length c0_2) := (blk_cell BK424.out 2).trans rfl; have hfz8_0 := blk_frozen BK424.out 0; have hfz8_1 := blk_frozen BK424.out 1; have hfz8_2 := blk_frozen BK424.out 2))
    go_loopg [5, 16] k (fun kq v5 v16 w' => ∃ (x5_1 : Int) (x16_1 : Int), v5 = .int .i64 x5_1 ∧ v16 = .int .i64 x16_1 ∧ Aside0 (zone_Offset.l0 kq a1 x5_1 l0_2 (l0_2.length : Int) x16_1 = some r) ∧ Aside0 (kq ≤ k) ∧ Aside0 (w'.heap[gb424]? = some (.cells #[.string a0_0, .int .i64 a0_1, (.slice A0_2 l0_2.length c0_2)] 24 (0, 0))) ∧ Aside0 (Below w.heap.size w w'))
    case atStart => exact ⟨(a0_1), (0), (by first | rfl | (simp; done) | (simp [*]; done)), (by first | rfl | (simp; done) | (simp [*]; done)), H', ⟨Nat.le_refl _⟩, ⟨by (with_reducible repeat (first | refine blk_drewN ?_ _ | refine blk_drew ?_ | refine blk_alloc ?_ _)); exact BK424.out⟩, ⟨by repeat (first | (with_reducible first | exact HB.out | apply below_alloc | apply pw_below_drewN | apply below_drew1 | refine below_set ?_ GE424.out) | exact HB.out)⟩⟩
    case round =>
      clear H'
      try clear p2
      try clear c3
      try clear c4
      try clear hcz6_0
      try clear hcz6_1
      try clear hcz6_2
      try clear hcz8_0
      try clear hcz8_1
      try clear hcz8_2
      try clear hfz6_0
      try clear hfz6_1
      try clear hfz6_2
      try clear hfz8_0
      try clear hfz8_1
      try clear hfz8_2
      obtain ⟨x5_1, x16_1, rfl, rfl, HA, HK1, BK424, HB⟩ := hrel
      cases gk with
      | zero => exact absurd HA.out (by simp [zone_Offset.l0])
      | succ k1 =>
        have H := HA.out
        clear HA
        simp only [zone_Offset.l0] at H
        by_cases c9 : x16_1 < (l0_2.length : Int)
        · rw [if_pos c9] at H
          have c9b0 : decide (x16_1 < (l0_2.length : Int)) = true := decide_eq_true c9
          clear c9
          by_cases c10 : 0 ≤ x16_1
          · rw [if_pos c10] at H
            have c10b0 : decide (0 ≤ x16_1) = true := decide_eq_true c10
            clear c10
            by_cases c11 : x16_1 < (l0_2.length : Int)
            · rw [if_pos c11] at H
              have c11b0 : decide (x16_1 < (l0_2.length : Int)) = true := decide_eq_true c11
              clear c11
              by_cases c12 : ((rd_T75 l0_2 x16_1).f0) ≤ a1
              · rw [if_pos c12] at H
                have c12b0 : decide (((rd_T75 l0_2 x16_1).f0) ≤ a1) = true := decide_eq_true c12
                clear c12
                have H' := Aside0.mk H
                clear H
                have p426 : 0 ≤ (x16_1 : Int) := of_decide_eq_true (by first | (with_reducible assumption) | assumption)
                have q426 : x16_1 < (l0_2.length : Int) := of_decide_eq_true (by first | (with_reducible assumption) | assumption)
                obtain ⟨ad426, e426, hx426_0, hx426_1⟩ := at_T75 HR0_2.out x16_1 p426 q426
                cases e426
                replace hx426_0 := (HB.out.cell (World.block_lt_of_cell? w _ hx426_0)).trans hx426_0
                replace hx426_1 := (HB.out.cell (World.block_lt_of_cell? w _ hx426_1)).trans hx426_1
                replace p426 := eq_true p426
                replace q426 := eq_true q426
                go_wp2_with (first | ((with_reducible refine gate_dst (N := 7) rfl ?_); refine box_event ?hg (N := 7) ?hd (cs := #[.int .i64 0, .int .i64 0]) (t := 75) ?hr ?_; (case hd => rfl); (case hg => rfl); (case hr => first | (go_simp; done) | (go_simp; rfl)); intro gb427 hg w13 hbox hb; have n0_ := Aside0.mk (blk_below (g := gb424) (o := .cells #[.string a0_0, .int .i64 a0_1, .slice (some ad426) l0_2.length c0_2] 24 (0, 0)) (by (with_reducible repeat (first | refine blk_drewN ?_ _ | refine blk_drew ?_ | refine blk_alloc ?_ _)); exact BK424.out) hb); have n1_ := Aside0.mk (below_step (by repeat (first | (with_reducible first | exact HB.out | apply below_alloc | apply pw_below_drewN | apply below_drew1 | refine below_set ?_ GE424.out) | exact HB.out)) hb); have n2_ := Aside0.mk (hbox); have n3_ := Aside0.mk ((by rw [hg]; exact (below_size (by repeat (first | (with_reducible first | exact HB.out | apply below_alloc | apply pw_below_drewN | apply below_drew1 | refine below_set ?_ GE424.out) | exact HB.out))) : w.heap.size ≤ gb427)); have n4_ := Aside0.mk ((by rw [hg]; exact (below_size (by repeat (first | (with_reducible first | exact HB.out | apply below_alloc | apply pw_below_drewN | apply below_drew1 | refine below_set ?_ GE424.out) | exact HB.out))) : w.heap.size ≤ gb427)); have n5_ := Aside0.mk ((by rw [hg]; exact Nat.ne_of_lt (blk_lt (g := gb424) (o := .cells #[.string a0_0, .int .i64 a0_1, .slice (some ad426) l0_2.length c0_2] 24 (0, 0)) (by (with_reducible repeat (first | refine blk_drewN ?_ _ | refine blk_drew ?_ | refine blk_alloc ?_ _)); exact BK424.out)) : gb424 ≠ gb427)); have n6_ := Aside0.mk ((by rw [hg]; exact Nat.ne_of_gt (blk_lt (g := gb424) (o := .cells #[.string a0_0, .int .i64 a0_1, .slice (some ad426) l0_2.length c0_2] 24 (0, 0)) (by (with_reducible repeat (first | refine blk_drewN ?_ _ | refine blk_drew ?_ | refine blk_alloc ?_ _)); exact BK424.out)) : gb427 ≠ gb424)); clear BK424; clear HB; have BK424 := n0_; have HB := n1_; have BK427 := n2_; have GW427 := n3_; have GE427 := n4_; have NB424_427 := n5_; have NB427_424 := n6_; clear n0_ n1_ n2_ n3_ n4_ n5_ n6_; clear hb hbox hg; have hnb14 := NB427_424.out; have hnc14 := NB424_427.out; have hcz15_0 : w13.cell? ⟨gb427, 0, none⟩ = some (.int .i64 0) := (blk_cell BK427.out 0).trans rfl; have hcz15_1 : w13.cell? ⟨gb427, 1, none⟩ = some (.int .i64 0) := (blk_cell BK427.out 1).trans rfl; have hfz15_0 := blk_frozen BK427.out 0; have hfz15_1 := blk_frozen BK427.out 1))
                go_roundg k1
                case measure => have := HK1.out; omega
                case rel => exact ⟨((rd_T75 l0_2 x16_1).f1), (wrap64 (x16_1 + 1)), (by first | rfl | (simp; done) | (simp [*]; done)), (by first | rfl | (simp; done) | (simp [*]; done)), H', ⟨by have := HK1.out; omega⟩, ⟨by (with_reducible repeat (first | refine blk_drewN ?_ _ | refine blk_drew ?_ | refine blk_alloc ?_ _)); refine blk_far ?_ NB424_427.out _; (with_reducible repeat (first | refine blk_drewN ?_ _ | refine blk_drew ?_ | refine blk_alloc ?_ _)); refine blk_far ?_ NB424_427.out _; (with_reducible repeat (first | refine blk_drewN ?_ _ | refine blk_drew ?_ | refine blk_alloc ?_ _)); exact BK424.out⟩, ⟨by repeat (first | (with_reducible first | exact HB.out | apply below_alloc | apply pw_below_drewN | apply below_drew1 | refine below_set ?_ GE424.out | refine below_set ?_ GE427.out) | exact HB.out)⟩⟩
              · rw [if_neg c12] at H
                have c12b0 : decide (((rd_T75 l0_2 x16_1).f0) ≤ a1) = false := decide_eq_false c12
                clear c12
                have H' := Aside0.mk H
                clear H
                have p426 : 0 ≤ (x16_1 : Int) := of_decide_eq_true (by first | (with_reducible assumption) | assumption)
                have q426 : x16_1 < (l0_2.length : Int) := of_decide_eq_true (by first | (with_reducible assumption) | assumption)
                obtain ⟨ad426, e426, hx426_0, hx426_1⟩ := at_T75 HR0_2.out x16_1 p426 q426
                cases e426
                replace hx426_0 := (HB.out.cell (World.block_lt_of_cell? w _ hx426_0)).trans hx426_0
                replace hx426_1 := (HB.out.cell (World.block_lt_of_cell? w _ hx426_1)).trans hx426_1
                replace p426 := eq_true p426
                replace q426 := eq_true q426
                go_wp2_with (first | ((with_reducible refine gate_dst (N := 7) rfl ?_); refine box_event ?hg (N := 7) ?hd (cs := #[.int .i64 0, .int .i64 0]) (t := 75) ?hr ?_; (case hd => rfl); (case hg => rfl); (case hr => first | (go_simp; done) | (go_simp; rfl)); intro gb427 hg w16 hbox hb; have n0_ := Aside0.mk (blk_below (g := gb424) (o := .cells #[.string a0_0, .int .i64 a0_1, .slice (some ad426) l0_2.length c0_2] 24 (0, 0)) (by (with_reducible repeat (first | refine blk_drewN ?_ _ | refine blk_drew ?_ | refine blk_alloc ?_ _)); exact BK424.out) hb); have n1_ := Aside0.mk (below_step (by repeat (first | (with_reducible first | exact HB.out | apply below_alloc | apply pw_below_drewN | apply below_drew1 | refine below_set ?_ GE424.out) | exact HB.out)) hb); have n2_ := Aside0.mk (hbox); have n3_ := Aside0.mk ((by rw [hg]; exact (below_size (by repeat (first | (with_reducible first | exact HB.out | apply below_alloc | apply pw_below_drewN | apply below_drew1 | refine below_set ?_ GE424.out) | exact HB.out))) : w.heap.size ≤ gb427)); have n4_ := Aside0.mk ((by rw [hg]; exact (below_size (by repeat (first | (with_reducible first | exact HB.out | apply below_alloc | apply pw_below_drewN | apply below_drew1 | refine below_set ?_ GE424.out) | exact HB.out))) : w.heap.size ≤ gb427)); have n5_ := Aside0.mk ((by rw [hg]; exact Nat.ne_of_lt (blk_lt (g := gb424) (o := .cells #[.string a0_0, .int .i64 a0_1, .slice (some ad426) l0_2.length c0_2] 24 (0, 0)) (by (with_reducible repeat (first | refine blk_drewN ?_ _ | refine blk_drew ?_ | refine blk_alloc ?_ _)); exact BK424.out)) : gb424 ≠ gb427)); have n6_ := Aside0.mk ((by rw [hg]; exact Nat.ne_of_gt (blk_lt (g := gb424) (o := .cells #[.string a0_0, .int .i64 a0_1, .slice (some ad426) l0_2.length c0_2] 24 (0, 0)) (by (with_reducible repeat (first | refine blk_drewN ?_ _ | refine blk_drew ?_ | refine blk_alloc ?_ _)); exact BK424.out)) : gb427 ≠ gb424)); clear BK424; clear HB; have BK424 := n0_; have HB := n1_; have BK427 := n2_; have GW427 := n3_; have GE427 := n4_; have NB424_427 := n5_; have NB427_424 := n6_; clear n0_ n1_ n2_ n3_ n4_ n5_ n6_; clear hb hbox hg; have hnb17 := NB427_424.out; have hnc17 := NB424_427.out; have hcz18_0 : w16.cell? ⟨gb427, 0, none⟩ = some (.int .i64 0) := (blk_cell BK427.out 0).trans rfl; have hcz18_1 : w16.cell? ⟨gb427, 1, none⟩ = some (.int .i64 0) := (blk_cell BK427.out 1).trans rfl; have hfz18_0 := blk_frozen BK427.out 0; have hfz18_1 := blk_frozen BK427.out 1))
                go_roundg k1
                case measure => have := HK1.out; omega
                case rel => exact ⟨(x5_1), (wrap64 (x16_1 + 1)), (by first | rfl | (simp; done) | (simp [*]; done)), (by first | rfl | (simp; done) | (simp [*]; done)), H', ⟨by have := HK1.out; omega⟩, ⟨by (with_reducible repeat (first | refine blk_drewN ?_ _ | refine blk_drew ?_ | refine blk_alloc ?_ _)); refine blk_far ?_ NB424_427.out _; (with_reducible repeat (first | refine blk_drewN ?_ _ | refine blk_drew ?_ | refine blk_alloc ?_ _)); refine blk_far ?_ NB424_427.out _; (with_reducible repeat (first | refine blk_drewN ?_ _ | refine blk_drew ?_ | refine blk_alloc ?_ _)); exact BK424.out⟩, ⟨by repeat (first | (with_reducible first | exact HB.out | apply below_alloc | apply pw_below_drewN | apply below_drew1 | refine below_set ?_ GE424.out | refine below_set ?_ GE427.out) | exact HB.out)⟩⟩
            · rw [if_neg c11] at H
              exact absurd H (by simp)
          · rw [if_neg c10] at H
            exact absurd H (by simp)
        · rw [if_neg c9] at H
          have c9b0 : decide (x16_1 < (l0_2.length : Int)) = false := decide_eq_false c9
          clear c9
          obtain rfl := Option.some.inj H
          go_wp2
          go_ret
          exact ⟨by first | rfl | (simp [errW_none, errW_some] <;> rfl) | (simp [*, errW_none, errW_some] <;> rfl), by repeat (first | (with_reducible first | exact HB.out | apply below_alloc | apply pw_below_drewN | apply below_drew1 | refine below_set ?_ GE424.out) | exact HB.out)⟩
  · replace c4 := Bool.eq_false_iff.mpr c4
    subst c4
    have H1 : (some 0) = some r := by rw [if_neg (show ¬ (false = true) by decide)] at H; exact H
    clear H
    have H := H1
    clear H1
    obtain rfl := Option.some.inj H
    go_enter Try.func40, Try.ntmps40
    go_wp2_with (first | ((with_reducible refine gate_dst (N := 2) rfl ?_); refine box_event ?hg (N := 2) ?hd (cs := #[.string a0_0, .int .i64 a0_1, .slice A0_2 l0_2.length c0_2]) (t := 24) ?hr ?_; (case hd => rfl); (case hg => rfl); (case hr => first | (go_simp; done) | (go_simp; rfl)); intro gb424 hg w19 hbox hb; have n0_ := Aside0.mk (below_step (by repeat (first | (with_reducible first | exact HB.out | apply below_alloc | apply pw_below_drewN | apply below_drew1) | exact HB.out)) hb); have n1_ := Aside0.mk (hbox); have n2_ := Aside0.mk ((by rw [hg]; exact (below_size (by repeat (first | (with_reducible first | exact HB.out | apply below_alloc | apply pw_below_drewN | apply below_drew1) | exact HB.out))) : w.heap.size ≤ gb424)); have n3_ := Aside0.mk ((by rw [hg]; exact (below_size (by repeat (first | (with_reducible first | exact HB.out | apply below_alloc | apply pw_below_drewN | apply below_drew1) | exact HB.out))) : w.heap.size ≤ gb424)); clear HB; have HB := n0_; have BK424 := n1_; have GW424 := n2_; have GE424 := n3_; clear n0_ n1_ n2_ n3_; clear hb hbox hg; have hcz20_0 : w19.cell? ⟨gb424, 0, none⟩ = some (.string a0_0) := (blk_cell BK424.out 0).trans rfl; have hcz20_1 : w19.cell? ⟨gb424, 1, none⟩ = some (.int .i64 a0_1) := (blk_cell BK424.out 1).trans rfl; have hcz20_2 : w19.cell? ⟨gb424, 2, none⟩ = some (.slice A0_2 l0_2.length c0_2) := (blk_cell BK424.out 2).trans rfl; have hfz20_0 := blk_frozen BK424.out 0; have hfz20_1 := blk_frozen BK424.out 1; have hfz20_2 := blk_frozen BK424.out 2) | ((with_reducible refine gate_callee (f := 38) rfl ?_); refine goesL_ (some 9) rfl rfl Try.func38 (by kernel_rfl) rfl #[.agg #[.string a0_0, .int .i64 a0_1, .slice A0_2 l0_2.length c0_2]] rfl (by (try simp only [List.map_toArray, List.map_cons, List.map_nil]); first | done | rfl | (simp only [List.length_drop, List.length_take]; rfl)) ?_; (with_reducible refine (zone_Valid.calls k a0_0 a0_1 _ _ l0_2 false _ ?side1 ?side2 A3.out).mono ?_); (case side1 => repeat (first | exact (Kd.C_below HR0_2.out HB.out) | (with_reducible refine Kd.C_alloc ?_ _) | (with_reducible refine Kd.C_drewN ?_ _) | (with_reducible refine Kd.C_drew ?_))); (case side2 => exact HC0_2.out); rintro e w21 ⟨rfl, hb⟩; refine ⟨_, rfl, ?_⟩; have n0_ := Aside0.mk (blk_below (g := gb424) (o := .cells #[.string a0_0, .int .i64 a0_1, .slice A0_2 l0_2.length c0_2] 24 (0, 0)) (by (with_reducible repeat (first | refine blk_drewN ?_ _ | refine blk_drew ?_ | refine blk_alloc ?_ _)); exact BK424.out) hb); have n1_ := Aside0.mk (below_step (by repeat (first | (with_reducible first | exact HB.out | apply below_alloc | apply pw_below_drewN | apply below_drew1 | refine below_set ?_ GE424.out) | exact HB.out)) hb); clear BK424; clear HB; have BK424 := n0_; have HB := n1_; clear n0_ n1_; (try clear hb); (try clear hb2); (try clear hk); (try clear hi)))
    go_ret
    exact ⟨by first | rfl | (simp [errW_none, errW_some] <;> rfl) | (simp [*, errW_none, errW_some] <;> rfl), by repeat (first | (with_reducible first | exact HB.out | apply below_alloc | apply pw_below_drewN | apply below_drew1 | refine below_set ?_ GE424.out) | exact HB.out)⟩
def wageofficeref03_Ints.l0 : Nat → List Int → List Int → Int → Option (Bool)
  | 0, _, _, _ => none
  | k + 1, x0, x1, x5 => if x5 < (x0.length : Int) then (if 0 ≤ x5 then (if x5 < (x1.length : Int) then (if (rd x0 x5) = (rd x1 x5) then (wageofficeref03_Ints.l0 k x0 x1 (wrap64 (x5 + 1))) else (some false)) else (none)) else (none)) else (some true)
def wageofficeref03_Ints.f (k : Nat) (l0 : List Int) (l1 : List Int) : Option (Bool) := if (l0.length : Int) = (l1.length : Int) then (wageofficeref03_Ints.l0 k l0 l1 0) else (some false)
theorem wageofficeref03_Ints.mono_l : ∀ k, (∀ y0 y1 y2, LeO (wageofficeref03_Ints.l0 k y0 y1 y2) (wageofficeref03_Ints.l0 (k + 1) y0 y1 y2))
  | 0 => fun _ _ _ r h => by simp [wageofficeref03_Ints.l0] at h
  | k + 1 => by
    have ih0 := wageofficeref03_Ints.mono_l k
    · intro y0 y1 y2
      unfold wageofficeref03_Ints.l0
      repeat' first
      | (with_reducible exact ih0 _ _ _)
      | (with_reducible exact LeO.refl _)
      | (with_reducible exact LeO.none _)
      | (with_reducible refine LeO.ite ?_ ?_)
      | (with_reducible refine LeO.bind ?_ (fun _ => ?_))
      | exact ih0 _ _ _
      | exact LeO.none _
      | refine LeO.ite ?_ ?_
      | refine LeO.bind ?_ (fun _ => ?_)
theorem wageofficeref03_Ints.mono : ∀ a0 a1 k, LeO (wageofficeref03_Ints.f k a0 a1) (wageofficeref03_Ints.f (k + 1) a0 a1) := by
  intro a0 a1 k
  have ih0 := wageofficeref03_Ints.mono_l k
  unfold wageofficeref03_Ints.f
  repeat' first
      | (with_reducible exact ih0 _ _ _)
      | (with_reducible exact LeO.refl _)
      | (with_reducible exact LeO.none _)
      | (with_reducible refine LeO.ite ?_ ?_)
      | (with_reducible refine LeO.bind ?_ (fun _ => ?_))
      | exact ih0 _ _ _
      | exact LeO.none _
      | refine LeO.ite ?_ ?_
      | refine LeO.bind ?_ (fun _ => ?_)
set_option maxHeartbeats 8000000 in
set_option maxRecDepth 100000 in
theorem wageofficeref03_Ints.calls (k : Nat) (A0 : Option Addr) (c0 : Nat) (l0 : List Int) (A1 : Option Addr) (c1 : Nat) (l1 : List Int) (r : Bool) (w : World) (hr0 : Kd.C (Kd.int .i64) w A0 l0.length l0) (hc0 : l0.length ≤ c0) (hr1 : Kd.C (Kd.int .i64) w A1 l1.length l1) (hc1 : l1.length ≤ c1) (h : wageofficeref03_Ints.f k l0 l1 = some r) :
    Calls Try.prog 46 #[.slice A0 l0.length c0, .slice A1 l1.length c1] w fun e w' => e = .returned (.bool r) ∧ Drawn0 w w' := by
  have HR0 := Aside0.mk hr0
  have HC0 := Aside0.mk hc0
  clear hr0 hc0
  have HR1 := Aside0.mk hr1
  have HC1 := Aside0.mk hc1
  clear hr1 hc1
  have H : (if (l0.length : Int) = (l1.length : Int) then (wageofficeref03_Ints.l0 k l0 l1 0) else (some false)) = some r := h
  clear h
  by_cases c3 : (l0.length : Int) = (l1.length : Int)
  · rw [if_pos c3] at H
    have c3b0 : ((l0.length : Int) == (l1.length : Int)) = true := beq_iff_eq.mpr c3
    have c3b1 : ((l0.length : Int) != (l1.length : Int)) = false := bne_eq_false_iff_eq.mpr c3
    have c3b2 : (l0.length == l1.length) = true := by first | simpa using c3 | (simp at c3 ⊢; omega)
    clear c3
    have H' := Aside0.mk H
    clear H
    go_enter Try.func46, Try.ntmps46
    go_wp2
    repeat (go_quiet (fail); try go_wp2)
    go_loopg [5] k (fun kq v5 w' => ∃ (x5_1 : Int), v5 = .int .i64 x5_1 ∧ Aside0 (wageofficeref03_Ints.l0 kq l0 l1 x5_1 = some r) ∧ Aside0 (kq ≤ k) ∧ Drawn0 w w')
    case atStart => exact ⟨(0), (by first | rfl | (simp; done) | (simp [*]; done)), H', ⟨Nat.le_refl _⟩, by repeat (first | exact Drawn0.refl _ | apply Drawn0.step)⟩
    case round =>
      clear H'
      try clear c1
      try clear p2
      try clear c3
      try clear c3b0
      try clear c3b1
      try clear c3b2
      obtain ⟨x5_1, rfl, HA, HK1, ⟨m1, rfl⟩⟩ := hrel
      cases gk with
      | zero => exact absurd HA.out (by simp [wageofficeref03_Ints.l0])
      | succ k1 =>
        have H := HA.out
        clear HA
        simp only [wageofficeref03_Ints.l0] at H
        by_cases c4 : x5_1 < (l0.length : Int)
        · rw [if_pos c4] at H
          have c4b0 : decide (x5_1 < (l0.length : Int)) = true := decide_eq_true c4
          clear c4
          by_cases c5 : 0 ≤ x5_1
          · rw [if_pos c5] at H
            have c5b0 : decide (0 ≤ x5_1) = true := decide_eq_true c5
            clear c5
            by_cases c6 : x5_1 < (l1.length : Int)
            · rw [if_pos c6] at H
              have c6b0 : decide (x5_1 < (l1.length : Int)) = true := decide_eq_true c6
              clear c6
              by_cases c7 : (rd l0 x5_1) = (rd l1 x5_1)
              · rw [if_pos c7] at H
                have c7b0 : ((rd l0 x5_1) == (rd l1 x5_1)) = true := beq_iff_eq.mpr c7
                have c7b1 : ((rd l0 x5_1) != (rd l1 x5_1)) = false := bne_eq_false_iff_eq.mpr c7
                clear c7
                have H' := Aside0.mk H
                clear H
                have p428 : 0 ≤ (x5_1 : Int) := of_decide_eq_true (by first | (with_reducible assumption) | assumption)
                have q428 : x5_1 < (l0.length : Int) := of_decide_eq_true (by first | (with_reducible assumption) | assumption)
                obtain ⟨ad428, e428, hx428_0⟩ := Kd.at_int HR0.out x5_1 p428 q428
                cases e428
                replace p428 := eq_true p428
                replace q428 := eq_true q428
                have p429 : 0 ≤ (x5_1 : Int) := of_decide_eq_true (by first | (with_reducible assumption) | assumption)
                have q429 : x5_1 < (l1.length : Int) := of_decide_eq_true (by first | (with_reducible assumption) | assumption)
                obtain ⟨ad429, e429, hx429_0⟩ := Kd.at_int HR1.out x5_1 p429 q429
                cases e429
                replace p429 := eq_true p429
                replace q429 := eq_true q429
                go_wp2
                repeat (go_quiet (fail); try go_wp2)
                go_roundg k1
                case measure => have := HK1.out; omega
                case rel => exact ⟨(wrap64 (x5_1 + 1)), (by first | rfl | (simp; done) | (simp [*]; done)), H', ⟨by have := HK1.out; omega⟩, by repeat (first | exact Drawn0.refl _ | apply Drawn0.step)⟩
              · rw [if_neg c7] at H
                have c7b0 : ((rd l0 x5_1) == (rd l1 x5_1)) = false := beq_eq_false_iff_ne.mpr c7
                have c7b1 : ((rd l0 x5_1) != (rd l1 x5_1)) = true := bne_iff_ne.mpr c7
                obtain rfl := Option.some.inj H
                have p428 : 0 ≤ (x5_1 : Int) := of_decide_eq_true (by first | (with_reducible assumption) | assumption)
                have q428 : x5_1 < (l0.length : Int) := of_decide_eq_true (by first | (with_reducible assumption) | assumption)
                obtain ⟨ad428, e428, hx428_0⟩ := Kd.at_int HR0.out x5_1 p428 q428
                cases e428
                replace p428 := eq_true p428
                replace q428 := eq_true q428
                have p429 : 0 ≤ (x5_1 : Int) := of_decide_eq_true (by first | (with_reducible assumption) | assumption)
                have q429 : x5_1 < (l1.length : Int) := of_decide_eq_true (by first | (with_reducible assumption) | assumption)
                obtain ⟨ad429, e429, hx429_0⟩ := Kd.at_int HR1.out x5_1 p429 q429
                cases e429
                replace p429 := eq_true p429
                replace q429 := eq_true q429
                go_wp2
                repeat (go_quiet (fail); try go_wp2)
                go_ret
                exact ⟨by first | rfl | (simp; done) | (simp [*]; done), by repeat (first | exact Drawn0.refl _ | apply Drawn0.step)⟩
            · rw [if_neg c6] at H
              exact absurd H (by simp)
          · rw [if_neg c5] at H
            exact absurd H (by simp)
        · rw [if_neg c4] at H
          have c4b0 : decide (x5_1 < (l0.length : Int)) = false := decide_eq_false c4
          clear c4
          obtain rfl := Option.some.inj H
          go_wp2
          repeat (go_quiet (fail); try go_wp2)
          go_ret
          exact ⟨by first | rfl | (simp; done) | (simp [*]; done), by repeat (first | exact Drawn0.refl _ | apply Drawn0.step)⟩
  · rw [if_neg c3] at H
    have c3b0 : ((l0.length : Int) == (l1.length : Int)) = false := beq_eq_false_iff_ne.mpr c3
    have c3b1 : ((l0.length : Int) != (l1.length : Int)) = true := bne_iff_ne.mpr c3
    have c3b2 : (l0.length == l1.length) = false := by first | simpa using c3 | (simp at c3 ⊢; omega)
    obtain rfl := Option.some.inj H
    go_enter Try.func46, Try.ntmps46
    go_wp2
    repeat (go_quiet (fail); try go_wp2)
    go_ret
    exact ⟨by first | rfl | (simp; done) | (simp [*]; done), by repeat (first | exact Drawn0.refl _ | apply Drawn0.step)⟩
end Go.Proofs.Ytnpceipoakclbaa.Q

namespace Go.Proofs.Ytnpceipoakclbaa.Q
open Go.RowKit Go.Shelf Go.Proofs.YtnpceipoakclbaaW.PrintWords Go.Proofs.YtnpceipoakclbaaW.PrintLast Go.Proofs.YtnpceipoakclbaaW.PrintMore
set_option linter.unusedVariables false
set_option linter.unusedSimpArgs false
attribute [local go_sem] Oper.semAt_some max2_m min2_m max_two min_two
def instP (local_ : Int) (p : Pt) : List Int := if p.a ≤ local_ - p.o ∧ local_ - p.o ≤ p.b - 1 then [local_ - p.o] else []
def instL (local_ : Int) (xs : List Pt) : List Int := xs.flatMap (instP local_)
theorem instL_len (c : Int) : ∀ xs : List Pt, (instL c xs).length ≤ xs.length := by
  intro xs
  induction xs with
  | nil => simp [instL]
  | cons x xs ih =>
    have h : instL c (x :: xs) = instP c x ++ instL c xs := rfl
    rw [h, List.length_append]
    have : (instP c x).length ≤ 1 := by unfold instP; split <;> simp
    simp only [List.length_cons]
    omega
theorem instL_hit {c : Int} {pre : List Pt} {x : Pt} (h : x.a ≤ c - x.o ∧ c - x.o ≤ x.b - 1) : instL c (pre ++ [x]) = instL c pre ++ [c - x.o] := by
  unfold instL
  rw [List.flatMap_append]
  simp [instP, h]
theorem instL_miss {c : Int} {pre : List Pt} {x : Pt} (h : ¬ (x.a ≤ c - x.o ∧ c - x.o ≤ x.b - 1)) : instL c (pre ++ [x]) = instL c pre := by
  unfold instL
  rw [List.flatMap_append]
  simp only [List.flatMap_cons, List.flatMap_nil, List.append_nil, instP]
  rw [if_neg h, List.append_nil]
def zone_Instants.f (a0_0 : ByteArray) (a0_1 : Int) (l0_2 : List (S75)) (a1 : Int) (a2 : Int) : Option (List Int) :=
  some (if 0 ≤ a1 ∧ a1 ≤ 36524 ∧ 0 ≤ a2 ∧ a2 ≤ 1439 ∧ zvalid a0_1 l0_2 = true then instL (a1 * 1440 + a2) (psteps (min 52595999 (a1 * 1440 + a2 + 840) + 1) l0_2 (max 0 (a1 * 1440 + a2 - 840)) a0_1) else [])
theorem int_flat : Flat (Kd.int .i64) (fun x : Int => [Value.int .i64 x]) where
  m := ⟨fun h => h, fun h => h⟩
  len _ := rfl
  one x v hv := by
    simp only [List.mem_singleton] at hv
    subst hv
    rfl
theorem row_R {w : World} {base base' : Nat} {v : Value} {xs : List Int} (h : w.ownsRow base' 3 1 v xs.length (xs.map (Value.int .i64))) (hb : base ≤ base') : Kd.R (Kd.int .i64) 3 w base (fun _ => True) v xs := by
  refine (R_flat int_flat).2 ⟨fun _ _ => trivial, ?_⟩
  have h2 := own_weaken h hb
  rwa [List.map_eq_flatMap] at h2
set_option maxRecDepth 100000 in
set_option maxHeartbeats 8000000 in
theorem zone_Instants.calls (a0_0 : ByteArray) (a0_1 : Int) (A0_2 : Option Addr) (c0_2 : Nat) (l0_2 : List (S75)) (a1 : Int) (a2 : Int) (r : List Int) (w : World) (hr0_2 : Kd.C k75 w A0_2 l0_2.length l0_2) (hc0_2 : l0_2.length ≤ c0_2) (h : zone_Instants.f a0_0 a0_1 l0_2 a1 a2 = some r) :
    Calls Try.prog 47 #[.agg #[.string a0_0, .int .i64 a0_1, .slice A0_2 l0_2.length c0_2], .int .i64 a1, .int .i64 a2] w fun e w' => ∃ v0_ : Value, e = .returned (v0_) ∧ Kd.R (Kd.int .i64) 3 w' w.heap.size (fun _ => True) v0_ r ∧ Below w.heap.size w w' := by
  unfold zone_Instants.f at h
  have h := Option.some.inj h
  have HC := Lib.hid hr0_2
  have HL := Lib.hid hc0_2
  clear hr0_2 hc0_2
  by_cases h1 : 0 ≤ a1 ∧ a1 ≤ 36524
  · by_cases h2 : 0 ≤ a2 ∧ a2 ≤ 1439
    · obtain ⟨b1, b2⟩ := h1
      obtain ⟨b3, b4⟩ := h2
      cases hv : zvalid a0_1 l0_2 with
      | true =>
        rw [if_pos ⟨b1, b2, b3, b4, hv⟩] at h
        have HR := Lib.hid h
        have HV := Lib.hid hv
        clear h hv
        refine (callsIn_wide (n := 3)).1 ?_
        refine callsIn_of_wp_marks Try.func47 rfl trivial ?_ rfl
        simp only [Try.ntmps47, List.size_toArray, List.length_cons, List.length_nil, Nat.reduceAdd, Nat.reduceSub, Array.replicate_succ, Array.replicate_zero, List.push_toArray, List.append_toArray, List.nil_append, List.cons_append]
        gi_wp2_with fail
        refine ⟨trivial, (callsIn_wide.2 (between_t _ _ _ _ ⟨b1, b2⟩)).mono ?_⟩
        rintro e w' ⟨rfl, nd, rfl⟩
        gi_wp2_with fail
        refine ⟨trivial, (callsIn_wide.2 (between_t _ _ _ _ ⟨b3, b4⟩)).mono ?_⟩
        rintro e w' ⟨rfl, nd2, rfl⟩
        gi_wp2_with fail
        refine ⟨trivial, (callsIn_wide.2 (valid_c a0_0 a0_1 _ _ l0_2 _ true HV.out (Kd.C_drewN (Kd.C_alloc HC.out _) _) HL.out)).mono ?_⟩
        rintro e V ⟨rfl, hb⟩
        have hz := blk_below (blk_drewN (World.alloc_heap_new w (.cells #[.string a0_0, .int .i64 a0_1, .slice A0_2 l0_2.length c0_2] 24)) (nd + nd2)) hb
        have hBV := below_step (pw_below_drewN (below_alloc (Below.refl w.heap.size w) (.cells #[.string a0_0, .int .i64 a0_1, .slice A0_2 l0_2.length c0_2] 24)) (nd + nd2)) hb
        have hsV : w.heap.size + 1 ≤ V.heap.size := by have := hb.size; simpa using this
        have z0 := blk_cell hz 0
        have z1 := blk_cell hz 1
        have z2 := blk_cell hz 2
        simp only [List.getElem?_toArray, List.getElem?_cons_zero, List.getElem?_cons_succ] at z0 z1 z2
        clear hb hz
        have HBV := Lib.hid hBV
        clear hBV
        obtain ⟨V3, hV3⟩ : ∃ V3, V3 = (V.alloc (.cells #[.slice none 0 0] 66)).alloc (.cells #[.int .i64 (a1 * 1440 + a2)] 3) := ⟨_, rfl⟩
        have hb3 : Below V.heap.size V V3 := hV3 ▸ below_alloc (below_alloc (Below.refl _ _) _) _
        have z0 := pw_cell_below hb3 z0
        have z1 := pw_cell_below hb3 z1
        have z2 := pw_cell_below hb3 z2
        have q0 : Boxed V3 V.heap.size 66 (.slice none 0 0) := hV3 ▸ blk_alloc (World.alloc_heap_new _ _) _
        have q1 : Boxed V3 (V.heap.size + 1) 3 (.int .i64 (a1 * 1440 + a2)) := hV3 ▸ (by have := World.alloc_heap_new (V.alloc (.cells #[.slice none 0 0] 66)) (.cells #[.int .i64 (a1 * 1440 + a2)] 3); rwa [World.size_alloc] at this)
        have hs3 : V3.heap.size = V.heap.size + 2 := by rw [hV3]; simp
        have hB3 := below_step HBV.out hb3
        have HV3 := Lib.hid hV3
        have HQ := Lib.hid (And.intro q0 (And.intro q1 hB3))
        have HS3 := Lib.hid hs3
        rw [hV3] at z0 z1 z2
        clear hV3 hb3 q0 q1 hB3 hs3
        gi_wp2_with fail
        rw [← HV3.out]
        clear z0 z1 z2
        generalize hcl : a1 * 1440 + a2 = cl at *
        have hclb : 0 ≤ cl ∧ cl ≤ 52596000 := ⟨by omega, by omega⟩
        generalize hfr : max 0 (cl - 840) = fr
        generalize htt : min 52595999 (cl + 840) + 1 = tt
        have hfb : 0 ≤ fr ∧ tt ≤ 52596000 := ⟨by omega, by omega⟩
        have HRR := HR.out
        rw [hfr, htt] at HRR
        have HR2 := Lib.hid HRR
        clear hfr htt HRR HR hcl
        refine ⟨trivial, (callsIn_wide.2 (parts_calls _ _ _ _ _ _ _ _)).mono ?_⟩
        rintro e w' ⟨rfl, rfl⟩
        have HOK := Lib.hid (psteps_all (tt := tt) (fr := fr) HV.out)
        gi_wp2_with fail
        refine zone_loopE (ty := 3) (by decide) (V := V3) HC.out HL.out HQ.out.2.2 rfl rfl (fun k => k = V.heap.size) (fun k h => ⟨by have := HBV.out.size; omega, by have := HS3.out; omega⟩)
          (fun (pre : List Pt) W => (∃ v, Boxed W V.heap.size 66 v ∧ W.ownsRow (V3.heap.size + 5) 3 1 v (instL cl pre).length ((instL cl pre).map (Value.int .i64))) ∧ Boxed W (V.heap.size + 1) 3 (.int .i64 cl))
          (fun pre W W' hi hk => ⟨by obtain ⟨v, h1, h2⟩ := hi.1; exact ⟨v, hk.boxed (by have := HS3.out; omega) h1, own_KB h2 hk (fun k h => by omega)⟩, hk.boxed (by have := HS3.out; omega) hi.2⟩) ⟨⟨_, HQ.out.1, World.ownsRow_nil _ _ _ _⟩, HQ.out.2.1⟩ ?round ?done
        case round =>
          intro ln pre x rest W hx hln hlt hi
          have hpl : pre.length ≤ 65 := by have := HOK.out.1; rw [← hx] at this; simp at this; omega
          obtain ⟨x1, x2, x3, x4, x5⟩ := HOK.out.2 x (by rw [← hx]; simp)
          have hWs : V3.heap.size + 4 < W.heap.size ∧ V.heap.size + 7 ≤ W.heap.size := ⟨by omega, by have := HS3.out; omega⟩
          obtain ⟨⟨v, hv, hrow⟩, hcb⟩ := hi
          have HI := Lib.hid (And.intro hv (And.intro hrow hcb))
          have hlnW : V.heap.size + 6 ≤ ln ∧ ln < W.heap.size ∧ ln ≤ V3.heap.size + 4 := ⟨by have := HS3.out; omega, hlt, by omega⟩
          clear hv hrow hcb hx hln hlt
          gi_wp2
          refine ⟨(KB.refl _ _).alloc _, fun W2 hs2 hk2 => ?_⟩
          have hpb := hk2.get (by show ¬ _ = _; omega) (World.alloc_heap_new W (.cells #[.int .i64 x.a, .int .i64 x.b, .int .i64 x.o] 95))
          have hv := hk2.boxed (by show ¬ _ = _; omega) (HI.out.1.alloc (.cells #[.int .i64 x.a, .int .i64 x.b, .int .i64 x.o] 95))
          have hcb := hk2.boxed (by show ¬ _ = _; omega) (HI.out.2.2.alloc (.cells #[.int .i64 x.a, .int .i64 x.b, .int .i64 x.o] 95))
          have hrow : W2.ownsRow (V3.heap.size + 5) 3 1 v (instL cl pre).length ((instL cl pre).map (Value.int .i64)) := own_KB (pw_own_below HI.out.2.1 (below_alloc (Below.refl _ _) _)) hk2 (fun k h => by have := HS3.out; have : k = ln := h; omega)
          have hsz : W2.heap.size = W.heap.size + 1 := by rw [hs2]; simp
          have hszl : V3.heap.size + 5 ≤ W2.heap.size := by omega
          have p0 := blk_cell hpb 0
          have p1 := blk_cell hpb 1
          have p2 := blk_cell hpb 2
          simp only [List.getElem?_toArray, List.getElem?_cons_zero, List.getElem?_cons_succ] at p0 p1 p2
          have cv := hv.cell
          have cc := hcb.cell
          have HV2 := Lib.hid (And.intro hv (And.intro hrow hcb))
          clear hs2 hk2 hpb hv hcb hrow hsz
          have hil := instL_len cl pre
          by_cases hin : x.a ≤ cl - x.o ∧ cl - x.o ≤ x.b - 1
          · gi_wp2_with fail
            refine ⟨trivial, CallsIn.inRound ln ((callsIn_wide.2 (between_t _ _ _ _ hin)).mono ?_)⟩
            rintro e w' ⟨rfl, nd3, rfl⟩
            have cv2 : (W2.drewN nd3).cell? ⟨V.heap.size, 0, none⟩ = some v := cv
            obtain ⟨i0, hi, hz0, hz1, hz2⟩ := info_parts info3
            have HII := Lib.hid (And.intro hi (And.intro hz0 (And.intro hz1 hz2)))
            clear hi hz0 hz1 hz2 cv
            have HB5 := Lib.hid hszl
            have HIL := Lib.hid hil
            have hkA := fun (w1 : World) (v' : Value) (hg : ((W2.drewN nd3).alloc (.cells #[.int .i64 (cl - x.o)] 3)).grownBy w1 v.ownBlock) => KB.of_append (Mine := NoB) (L := V3.heap.size + 5) (pw_own_drewN HV2.out.2.1 nd3) (Nat.le_refl _) hg
            have HKA := Lib.hid hkA
            clear hkA
            gi_wp2_with (gi_at_builtin; refine wpListIn_append_own _ rfl _ _ 66 rfl (V3.heap.size + 5) 3 i0 (.int .i64 0) 1 8 Try.underlying66 HII.out.1 HII.out.2.1 HII.out.2.2.1 HII.out.2.2.2 rfl (by decide) _ _ _ rfl ((pw_own_drewN HV2.out.2.1 nd3).alloc _) ⟨W2.heap.size, 0, none⟩ 1 1 [.int .i64 (cl - x.o)] rfl rfl (cell_one_new _ _ _) (by simp [Value.oneCell']) (by have := HIL.out; unfold maxLen; omega) (by have := HIL.out; omega) (by have := HB5.out; simp; omega) ?_; intro v' w1 hown' hgrow _; obtain ⟨g', cap', rfl⟩ := ownsRow_succ hown'; have hkg := HKA.out w1 v hgrow; have hv1 := hkg.boxed (fun h => by rcases h with h | h; exact h; have := h.1; have := HS3.out; omega) (show Boxed (W2.drewN nd3) V.heap.size 66 v from HV2.out.1); have HW1 := Lib.hid (And.intro hown' (And.intro hkg hv1)); have hc1 := hv1.cell; have hf1 := hv1.frozen; clear hown' hgrow hkg hv1)
            have k2 : KB (MineE (fun k => k = V.heap.size) (V3.heap.size + 5) 3 W2) W2 w1 := HW1.out.2.1.of_drewN.mono (fun i h _ => by rcases h with h | h; exact h.elim; exact .inr h)
            refine ⟨k2.trans' (KB.set1 w1 V.heap.size _) (fun i h _ => .inl h), ⟨_, HW1.out.2.2.set _, ?_⟩, (KB.set1 w1 V.heap.size _).boxed (by show ¬ _ = _; omega) (HW1.out.2.1.of_drewN.boxed (fun h => by rcases h with h | h; exact h; have := h.1; have := HS3.out; omega) HV2.out.2.2)⟩
            rw [instL_hit hin, List.length_append, List.map_append]
            exact own_KB HW1.out.1 (KB.set1 w1 V.heap.size _) (fun k h => by have : k = V.heap.size := h; have := HS3.out; omega)
          · gi_wp2_with fail
            refine ⟨trivial, CallsIn.inRound ln ((callsIn_wide.2 (between_n _ _ _ _ hin)).mono ?_)⟩
            rintro e w' ⟨rfl, nd3, rfl⟩
            clear cv
            gi_wp2
            refine ⟨(KB.refl _ _).drewN _, ⟨v, HV2.out.1, ?_⟩, HV2.out.2.2⟩
            rw [instL_miss hin]
            exact pw_own_drewN HV2.out.2.1 nd3
        case done =>
          intro W hk hlt hi hd
          obtain ⟨⟨v, hv, hrow⟩, hcb⟩ := hi
          have cv := hv.cell
          have HH := Lib.hid (And.intro hk (And.intro hrow hd))
          clear hk hlt hd hcb hv hrow
          gi_wp2
          refine ⟨by simp, .inl ⟨_, _, rfl, run_takeDeferred HH.out.2.2, ?_⟩⟩
          refine ⟨_, results_tmp rfl _ _ _, v, by simp, ?_, ?_⟩
          · rw [← HR2.out]
            refine row_R (base' := V3.heap.size + 5) (own_KB HH.out.2.1 (KB.put1 W (V3.heap.size + 3) _) (fun k h => by omega)) ?_
            have := HBV.out.size
            have := HS3.out
            omega
          · refine HQ.out.2.2.trans ?_
            exact KB.below (S := fun k => k = V.heap.size) (HH.out.1.putObj (.inr (by omega)) _) HQ.out.2.2.size (fun k h => by have := HBV.out.size; omega)
      | false =>
        rw [if_neg (fun h => by have := h.2.2.2.2; rw [hv] at this; cases this)] at h
        have HV := Lib.hid hv
        clear hv
        subst h
        go_enter Try.func47, Try.ntmps47
        go_wp2_with fail
        refine (between_t _ _ _ _ ⟨b1, b2⟩).mono ?_
        rintro e w' ⟨rfl, nd, rfl⟩
        go_wp2_with fail
        refine (between_t _ _ _ _ ⟨b3, b4⟩).mono ?_
        rintro e w' ⟨rfl, nd2, rfl⟩
        go_wp2_with fail
        refine (valid_c a0_0 a0_1 _ _ l0_2 _ false HV.out (Kd.C_drewN (Kd.C_alloc HC.out _) _) HL.out).mono ?_
        rintro e V ⟨rfl, hb⟩
        have HB := Lib.hid (below_step (pw_below_drewN (below_alloc (Below.refl w.heap.size w) (.cells #[.string a0_0, .int .i64 a0_1, .slice A0_2 l0_2.length c0_2] 24)) (nd + nd2)) hb)
        clear hb
        go_wp2
        go_ret
        exact ⟨_, rfl, Kd.R_nil _ _ _ _ _, HB.out⟩
    · rw [if_neg (fun h => h2 ⟨h.2.2.1, h.2.2.2.1⟩)] at h
      subst h
      obtain ⟨b1, b2⟩ := h1
      have H2 := Lib.hid h2
      clear h2
      go_enter Try.func47, Try.ntmps47
      go_wp2_with fail
      refine (between_t _ _ _ _ ⟨b1, b2⟩).mono ?_
      rintro e w' ⟨rfl, nd, rfl⟩
      go_wp2_with fail
      refine (between_n _ _ _ _ H2.out).mono ?_
      rintro e w' ⟨rfl, nd2, rfl⟩
      go_wp2
      go_ret
      exact ⟨_, rfl, Kd.R_nil _ _ _ _ _, pw_below_drewN (below_alloc (Below.refl _ _) _) _⟩
  · rw [if_neg (fun h => h1 ⟨h.1, h.2.1⟩)] at h
    subst h
    have H1 := Lib.hid h1
    clear h1
    go_enter Try.func47, Try.ntmps47
    go_wp2_with fail
    refine (between_n _ _ _ _ H1.out).mono ?_
    rintro e w' ⟨rfl, nd, rfl⟩
    go_wp2
    go_ret
    exact ⟨_, rfl, Kd.R_nil _ _ _ _ _, pw_below_drewN (below_alloc (Below.refl _ _) _) _⟩
end Go.Proofs.Ytnpceipoakclbaa.Q
