/- The portions of a stretch are positive, in increasing order of their days, and add up to its length; those of two successive stretches, added day by day, are those of the whole; conditions: none beyond the reading of the inputs (the guards are inside the law).
   The walk of the law's code and its plain law (merged by wip/tools/trim.py out of own texts and of texts that the kit's printer wrote). -/
import Derived.Test.YtnpceipoakclbaaCDiv2
import Derived.Maps.AppendAt
namespace Go.Proofs.Ytnpceipoakclbaa.Q
open Go.RowKit Go.Shelf Go.Proofs.YtnpceipoakclbaaW.PrintWords Go.Proofs.YtnpceipoakclbaaW.PrintLast Go.Proofs.YtnpceipoakclbaaW.PrintMore
set_option linter.unusedVariables false
set_option linter.unusedSimpArgs false
attribute [local go_sem] Oper.semAt_some
def zone_offset.f (a0_0 : ByteArray) (a0_1 : Int) (l0_2 : List (S75)) (a1 : Int) : Option (Int) :=
  if -4611686018427387904 ≤ a1 ∧ a1 ≤ 4611686018427387904 then some ((psteps (a1 + 1) l0_2 a1 a0_1).foldl (fun _ p => p.o) a0_1) else none
set_option maxRecDepth 100000 in
set_option maxHeartbeats 2000000 in
theorem zone_offset.calls (a0_0 : ByteArray) (a0_1 : Int) (A0_2 : Option Addr) (c0_2 : Nat) (l0_2 : List (S75)) (a1 : Int) (r : Int) (w : World) (hr0_2 : Kd.C k75 w A0_2 l0_2.length l0_2) (hc0_2 : l0_2.length ≤ c0_2) (h : zone_offset.f a0_0 a0_1 l0_2 a1 = some r) :
    Calls Try.prog 60 #[.agg #[.string a0_0, .int .i64 a0_1, .slice A0_2 l0_2.length c0_2], .int .i64 a1] w fun e w' => e = .returned (.int .i64 r) ∧ Below w.heap.size w w' := by
  unfold zone_offset.f at h
  by_cases hb : -4611686018427387904 ≤ a1 ∧ a1 ≤ 4611686018427387904
  · rw [if_pos hb] at h
    obtain ⟨hb1, hb2⟩ := hb
    have HR := Lib.hid (Option.some.inj h)
    have HC := Lib.hid hr0_2
    have HL := Lib.hid hc0_2
    have eg := enters_of Try.func73 (by kernel_rfl) rfl
    have EG := Lib.hid eg
    clear h hr0_2 hc0_2 eg
    refine (callsIn_wide (n := 3)).1 ?_
    refine callsIn_of_wp_marks Try.func60 rfl trivial ?_ rfl
    simp only [Try.ntmps60, List.size_toArray, List.length_cons, List.length_nil, Nat.reduceAdd, Nat.reduceSub, Array.replicate_succ, Array.replicate_zero, List.push_toArray, List.append_toArray, List.nil_append, List.cons_append]
    gi_wp2_with (refine ⟨trivial, ?_⟩; gi_at_call 65; refine (callsIn_wide.2 (parts_calls _ _ _ _ _ _ _ _)).mono ?_; rintro e w' ⟨rfl, rfl⟩)
    have hB : Below w.heap.size w ((w.alloc (.cells #[.string a0_0, .int .i64 a0_1, .slice A0_2 l0_2.length c0_2] 24)).alloc (.cells #[.int .i64 a0_1] 3)) := below_alloc (below_alloc (Below.refl _ _) _) _
    have hb0 := World.alloc_heap_new (w.alloc (.cells #[.string a0_0, .int .i64 a0_1, .slice A0_2 l0_2.length c0_2] 24)) (.cells #[.int .i64 a0_1] 3)
    have hs : ((w.alloc (.cells #[.string a0_0, .int .i64 a0_1, .slice A0_2 l0_2.length c0_2] 24)).alloc (.cells #[.int .i64 a0_1] 3)).heap.size = w.heap.size + 2 := by simp
    rw [World.size_alloc] at hb0
    generalize hV : (w.alloc (.cells #[.string a0_0, .int .i64 a0_1, .slice A0_2 l0_2.length c0_2] 24)).alloc (.cells #[.int .i64 a0_1] 3) = V at *
    clear hV
    have hbx : Boxed (((V.alloc (.cells #[.string a0_0, .int .i64 a0_1, .slice A0_2 l0_2.length c0_2] 24)).alloc (.cells #[.int .i64 a1] 3)).alloc (.cells #[.int .i64 (a1 + 1)] 3)) (w.heap.size + 1) 3 (.int .i64 a0_1) := blk_alloc (blk_alloc (blk_alloc hb0 _) _) _
    have hB3 := below_alloc (below_alloc (below_alloc hB (.cells #[.string a0_0, .int .i64 a0_1, .slice A0_2 l0_2.length c0_2] 24)) (.cells #[.int .i64 a1] 3)) (.cells #[.int .i64 (a1 + 1)] 3)
    have HB3 := Lib.hid hB3
    have hseq := parts_seq (ty := 3) (by decide) (fr := a1) (tt := a1 + 1) (nm := a0_0) (base := a0_1) HC.out HL.out hB
    rw [hs] at hseq
    have hs3 : (((V.alloc (.cells #[.string a0_0, .int .i64 a0_1, .slice A0_2 l0_2.length c0_2] 24)).alloc (.cells #[.int .i64 a1] 3)).alloc (.cells #[.int .i64 (a1 + 1)] 3)).heap.size = w.heap.size + 5 := by simp [hs]
    have HS3 := Lib.hid hs3
    clear hs hb0 hB hB3 hs3
    refine rf_law (gf := 73) rfl EG.out hseq (fun _ => rfl) (fun k h => by rw [HS3.out]; omega) (fun k h => by rw [HS3.out]; omega) (fun k => k = w.heap.size + 1) (fun k h => ⟨by rw [HS3.out]; omega, by omega⟩)
      (fun (pre : List Pt) W => Boxed W (w.heap.size + 1) 3 (.int .i64 (pre.foldl (fun (_ : Int) (p : Pt) => p.o) a0_1))) (fun pre W W' hi hk => hk.boxed (by rw [HS3.out]; omega) hi) hbx ?round ?done
    case round =>
      intro ln pre x rest W hx hln hlt hkb hi
      have hle := hkb.size
      rw [HS3.out] at hln hle
      have HI := Lib.hid hi
      clear hkb hi hbx
      dsimp only [Pt.enc]
      gi_wp2
      refine ⟨(KB.refl _ _).alloc _, fun W2 hs2 hk2 => ?_⟩
      have hp := blk_cell (hk2.get (by show ¬ _ = _; omega) (World.alloc_heap_new W (.cells #[.int .i64 x.a, .int .i64 x.b, .int .i64 x.o] 95))) 2
      simp only [List.getElem?_toArray, List.getElem?_cons_zero, List.getElem?_cons_succ] at hp
      have HB := Lib.hid (hk2.boxed (by show ¬ _ = _; omega) (HI.out.alloc (.cells #[.int .i64 x.a, .int .i64 x.b, .int .i64 x.o] 95)))
      have cb := HB.out.cell
      have fb := HB.out.frozen
      clear hs2 hk2
      gi_wp2
      refine ⟨(KB.set1 _ _ _).mono (fun _ h _ => .inl h), ?_⟩
      rw [List.foldl_append]
      exact HB.out.set _
    case done =>
      intro D W hD hk hi hd
      have cb := hi.cell
      have HH := Lib.hid (And.intro hk (And.intro hi hd))
      rw [HS3.out] at hD
      clear hk hi hd hbx
      gi_wp2
      refine ⟨by simp, .inl ⟨_, _, rfl, run_takeDeferred HH.out.2.2, ?_⟩⟩
      refine ⟨_, results_tmp rfl _ _ _, ?_⟩
      refine ⟨by simp [HR.out], ?_⟩
      refine HB3.out.trans ?_
      refine KB.below (S := fun k => k = w.heap.size + 1 ∨ k = w.heap.size + 2 + 1) (HH.out.1.putObj (.inr (by rw [HS3.out]; omega)) _) (by rw [HS3.out]; omega) (fun k h => by omega)
  · rw [if_neg hb] at h
    exact absurd h (by simp)
end Go.Proofs.Ytnpceipoakclbaa.Q

namespace Go.Proofs.Ytnpceipoakclbaa.Q
open Go.RowKit Go.Proofs.YtnpceipoakclbaaW.PrintWords Go.Proofs.YtnpceipoakclbaaW.PrintLast Go.Proofs.YtnpceipoakclbaaW.PrintMore
attribute [local go_sem] max2_int min2_int max_two min_two max_three min_three max_four min_four   -- for this text's walks alone
set_option linter.unusedVariables false
set_option linter.unusedSimpArgs false
def wageofficelaw03_example.f  : Option (ByteArray × Int × (List (S75))) := some ((⟨#[120]⟩ : ByteArray), 60, (([(⟨5000, 120⟩ : S75), (⟨20000, 60⟩ : S75)] : List (S75))))
set_option maxHeartbeats 8000000 in
set_option maxRecDepth 100000 in
theorem wageofficelaw03_example.calls  (r1 : ByteArray) (r2 : Int) (r3 : List (S75)) (w : World) (h : wageofficelaw03_example.f  = some (r1, r2, r3)) :
    Calls Try.prog 58 #[] w fun e w' => ∃ v2_ : Value, e = .returned (.agg #[.string r1, .int .i64 r2, v2_]) ∧ Kd.R k75 75 w' w.heap.size (fun _ => True) v2_ r3 ∧ Below w.heap.size w w' := by
  have hu24 := Try.underlying24
  have hu75 := Try.underlying75
  have HB := Aside0.mk (Below.refl w.heap.size w)
  have H : (some ((⟨#[120]⟩ : ByteArray), 60, (([(⟨5000, 120⟩ : S75), (⟨20000, 60⟩ : S75)] : List (S75))))) = some (r1, r2, r3) := h
  clear h
  obtain ⟨y415, hy415⟩ : ∃ y_ : List (S75), y_ = (([(⟨5000, 120⟩ : S75), (⟨20000, 60⟩ : S75)] : List (S75))) := ⟨_, rfl⟩
  replace H : (some ((⟨#[120]⟩ : ByteArray), 60, y415)) = some (r1, r2, r3) := by first | (rw [hy415]; with_reducible exact H) | (have H2_ := (Option.bind_some _ _).symm.trans H; rw [hy415]; with_reducible exact H2_) | (have H2_ := (Option.bind_some _ _).symm.trans H; with_reducible exact H2_) | with_reducible exact H | (rw [hy415]; exact H) | exact H
  have Ny415 := Aside0.mk hy415
  clear hy415
  simp only [Option.some.injEq, Prod.mk.injEq] at H
  obtain ⟨rfl, rfl, rfl⟩ := H
  go_enter Try.func58, Try.ntmps58
  go_wp2_with (first | ((with_reducible refine gate_dst (N := 0) rfl ?_); refine box_event ?hg (N := 0) ?hd (cs := #[.string (⟨#[]⟩ : ByteArray), .int .i64 0, .slice none 0 0]) (t := 24) ?hr ?_; (case hd => rfl); (case hg => rfl); (case hr => first | (go_simp; done) | (go_simp; rfl)); intro gb414 hg w1 hbox hb; have n0_ := Aside0.mk (below_step (by repeat (first | (with_reducible first | exact HB.out | apply below_alloc | apply pw_below_drewN | apply below_drew1) | exact HB.out)) hb); have n1_ := Aside0.mk (hbox); have n2_ := Aside0.mk ((by rw [hg]; exact (below_size (by repeat (first | (with_reducible first | exact HB.out | apply below_alloc | apply pw_below_drewN | apply below_drew1) | exact HB.out))) : w.heap.size ≤ gb414)); have n3_ := Aside0.mk ((by rw [hg]; exact (below_size (by repeat (first | (with_reducible first | exact HB.out | apply below_alloc | apply pw_below_drewN | apply below_drew1) | exact HB.out))) : w.heap.size ≤ gb414)); clear HB; have HB := n0_; have BK414 := n1_; have GW414 := n2_; have GE414 := n3_; clear n0_ n1_ n2_ n3_; clear hb hbox hg) | ((with_reducible refine gate_dst (N := 3) rfl ?_); refine Kd.R_lit k75 _ 75 ?hg (N := 3) ?hd (xs := ([(⟨5000, 120⟩ : S75), (⟨20000, 60⟩ : S75)] : List (S75))) (inner := [.int .i64 5000, .int .i64 120, .int .i64 20000, .int .i64 60]) (ok := fun _ => True) (okp := fun _ => True) ?hr ?hp (fun _ hk => hk) trivial (Below.refl _ _) (Nat.le_refl _) (by simp) ?_; (case hd => rfl); (case hg => rfl); (case hr => first | (go_simp; done) | (go_simp; rfl)); (case hp => exact (Reps.c2 (show Kd.M k75 _ _ _ (⟨5000, 120⟩ : S75) [.int .i64 5000, .int .i64 120] from (k75_mkM _ _ _ (⟨5000, 120⟩ : S75) )) (Reps.c2 (show Kd.M k75 _ _ _ (⟨20000, 60⟩ : S75) [.int .i64 20000, .int .i64 60] from (k75_mkM _ _ _ (⟨20000, 60⟩ : S75) )) (Reps.none _ _)))); intro v416 w2 ho3 hb hg_ hnew_; clear hg_ hnew_; (first | rw [← Ny415.out] at ho3 | (simp only [Int.reduceToNat] at ho3; rw [← Ny415.out] at ho3)); have n0_ := Aside0.mk (Kd.R_lower ho3 (below_size (by repeat (first | (with_reducible first | exact HB.out | apply below_alloc | apply pw_below_drewN | apply below_drew1 | refine below_set ?_ GE414.out) | exact HB.out)))); have n1_ := Aside0.mk (blk_below (g := gb414) (o := .cells #[.string (⟨#[]⟩ : ByteArray), .int .i64 0, .slice none 0 0] 24 (0, 0)) (by (with_reducible repeat (first | refine blk_drewN ?_ _ | refine blk_drew ?_ | refine blk_alloc ?_ _)); exact BK414.out) hb); have n2_ := Aside0.mk (below_step (by repeat (first | (with_reducible first | exact HB.out | apply below_alloc | apply pw_below_drewN | apply below_drew1 | refine below_set ?_ GE414.out) | exact HB.out)) hb); clear BK414; clear HB; have HO417 := n0_; have BK414 := n1_; have HB := n2_; clear n0_ n1_ n2_; clear hb ho3; obtain ⟨Ao4, co4, eo4⟩ := Kd.R_slice HO417.out; subst eo4; have hcz5_0 : w2.cell? ⟨gb414, 0, none⟩ = some (.string (⟨#[]⟩ : ByteArray)) := (blk_cell BK414.out 0).trans rfl; have hcz5_1 : w2.cell? ⟨gb414, 1, none⟩ = some (.int .i64 0) := (blk_cell BK414.out 1).trans rfl; have hcz5_2 : w2.cell? ⟨gb414, 2, none⟩ = some (.slice none 0 0) := (blk_cell BK414.out 2).trans rfl; have hfz5_0 := blk_frozen BK414.out 0; have hfz5_1 := blk_frozen BK414.out 1; have hfz5_2 := blk_frozen BK414.out 2))
  refine bodyPost_ret (results_cell_row rfl _ _ gb414 24 #[.string (⟨#[120]⟩ : ByteArray), .int .i64 60, .slice Ao4 y415.length co4] (0, 0) _ rfl (by (with_reducible repeat (first | refine blk_drewN ?_ _ | refine blk_drew ?_ | refine blk_alloc ?_ _)); refine blk_put (cs := #[.string (⟨#[120]⟩ : ByteArray), .int .i64 60, .slice none 0 0]) ?_ 2 _ rfl; (with_reducible repeat (first | refine blk_drewN ?_ _ | refine blk_drew ?_ | refine blk_alloc ?_ _)); refine blk_put (cs := #[.string (⟨#[120]⟩ : ByteArray), .int .i64 0, .slice none 0 0]) ?_ 1 _ rfl; (with_reducible repeat (first | refine blk_drewN ?_ _ | refine blk_drew ?_ | refine blk_alloc ?_ _)); refine blk_put (cs := #[.string (⟨#[]⟩ : ByteArray), .int .i64 0, .slice none 0 0]) ?_ 0 _ rfl; (with_reducible repeat (first | refine blk_drewN ?_ _ | refine blk_drew ?_ | refine blk_alloc ?_ _)); exact BK414.out) Try.underlying24 rfl (by kernel_rfl)) rfl ?_
  exact ⟨_, by first | rfl | (simp [errW_none, errW_some] <;> rfl) | (simp [*, errW_none, errW_some] <;> rfl), by (with_reducible repeat (first | apply Kd.R_alloc | apply Kd.R_drewN | apply Kd.R_drew)); exact Kd.R_mono (Kd.R_far (p := ⟨gb414, 2, none⟩) (Kd.R_far (p := ⟨gb414, 1, none⟩) (Kd.R_far (p := ⟨gb414, 0, none⟩) (Kd.R_types HO417.out BK414.out (by decide)) (fun _ hk => hk.2) (.string (⟨#[120]⟩ : ByteArray))) (fun _ hk => hk.2) (.int .i64 60)) (fun _ hk => hk.2) (.slice Ao4 y415.length co4)) (fun _ hk => trivial), by repeat (first | (with_reducible first | exact HB.out | apply below_alloc | apply pw_below_drewN | apply below_drew1 | refine below_set ?_ GE414.out) | exact HB.out)⟩
def zone_Local.j0 : Nat → Int → Bool → ByteArray → Int → List (S75) → Option (Int × Int × Int)
  | 0, _, _, _, _, _ => none
  | k + 1, x1, x16, x419000, x419001, x419002 => if x16 = true then (some (0, 0, 1)) else ((zone_offset.f x419000 x419001 x419002 x1).bind fun t421 => ((zone_dayOf.f (wrap64 (x1 + t421))).bind fun t422 => ((zone_between.f t422 0 36524).bind fun t423 => (if t423 = true then (some (t422, wrap64 ((wrap64 (x1 + t421)) - (wrap64 (t422 * 1440))), 0)) else (some (0, 0, 21))))))
def zone_Local.f (k : Nat) (a0_0 : ByteArray) (a0_1 : Int) (l0_2 : List (S75)) (a1 : Int) : Option (Int × Int × Int) := (zone_between.f a1 0 52595999).bind fun t419 => (if t419 = true then ((zone_Valid.f k a0_0 a0_1 l0_2).bind fun t420 => (zone_Local.j0 k a1 (!t420) a0_0 a0_1 l0_2)) else (zone_Local.j0 k a1 true a0_0 a0_1 l0_2))
theorem zone_Local.mono_l : ∀ k, (∀ y0 y1 y2 y3 y4, LeO (zone_Local.j0 k y0 y1 y2 y3 y4) (zone_Local.j0 (k + 1) y0 y1 y2 y3 y4))
  | 0 => fun _ _ _ _ _ r h => by simp [zone_Local.j0] at h
  | k + 1 => by
    have ih0 := zone_Local.mono_l k
    · intro y0 y1 y2 y3 y4
      unfold zone_Local.j0
      repeat' first
      | (with_reducible exact ih0 _ _ _ _ _)
      | (with_reducible exact zone_Valid.mono _ _ _ _)
      | (with_reducible exact LeO.refl _)
      | (with_reducible exact LeO.none _)
      | (with_reducible refine LeO.ite ?_ ?_)
      | (with_reducible refine LeO.bind ?_ (fun _ => ?_))
      | exact ih0 _ _ _ _ _
      | exact zone_Valid.mono _ _ _ _
      | exact LeO.none _
      | refine LeO.ite ?_ ?_
      | refine LeO.bind ?_ (fun _ => ?_)
theorem zone_Local.mono : ∀ a0 a1 a2 a3 k, LeO (zone_Local.f k a0 a1 a2 a3) (zone_Local.f (k + 1) a0 a1 a2 a3) := by
  intro a0 a1 a2 a3 k
  have ih0 := zone_Local.mono_l k
  unfold zone_Local.f
  repeat' first
      | (with_reducible exact ih0 _ _ _ _ _)
      | (with_reducible exact zone_Valid.mono _ _ _ _)
      | (with_reducible exact LeO.refl _)
      | (with_reducible exact LeO.none _)
      | (with_reducible refine LeO.ite ?_ ?_)
      | (with_reducible refine LeO.bind ?_ (fun _ => ?_))
      | exact ih0 _ _ _ _ _
      | exact zone_Valid.mono _ _ _ _
      | exact LeO.none _
      | refine LeO.ite ?_ ?_
      | refine LeO.bind ?_ (fun _ => ?_)
set_option maxHeartbeats 8000000 in
set_option maxRecDepth 100000 in
theorem zone_Local.calls (k : Nat) (a0_0 : ByteArray) (a0_1 : Int) (A0_2 : Option Addr) (c0_2 : Nat) (l0_2 : List (S75)) (a1 : Int) (r1 : Int) (r2 : Int) (r3 : Int) (w : World) (hr0_2 : Kd.C k75 w A0_2 l0_2.length l0_2) (hc0_2 : l0_2.length ≤ c0_2) (h : zone_Local.f k a0_0 a0_1 l0_2 a1 = some (r1, r2, r3)) :
    Calls Try.prog 36 #[.agg #[.string a0_0, .int .i64 a0_1, .slice A0_2 l0_2.length c0_2], .int .i64 a1] w fun e w' => e = .returned (.tuple #[.int .i64 r1, .int .i64 r2, .int .i64 r3]) ∧ Below w.heap.size w w' := by
  have hu24 := Try.underlying24
  have HR0_2 := Aside0.mk hr0_2
  have HC0_2 := Aside0.mk hc0_2
  clear hr0_2 hc0_2
  have HB := Aside0.mk (Below.refl w.heap.size w)
  have H : ((zone_between.f a1 0 52595999).bind fun t419 => (if t419 = true then ((zone_Valid.f k a0_0 a0_1 l0_2).bind fun t420 => (zone_Local.j0 k a1 (!t420) a0_0 a0_1 l0_2)) else (zone_Local.j0 k a1 true a0_0 a0_1 l0_2))) = some (r1, r2, r3) := h
  clear h
  have HC3 := Aside0.mk H
  clear H
  go_enter Try.func36, Try.ntmps36
  go_upto_region 1 with (first | ((with_reducible refine gate_dst (N := 2) rfl ?_); refine box_event ?hg (N := 2) ?hd (cs := #[.string a0_0, .int .i64 a0_1, .slice A0_2 l0_2.length c0_2]) (t := 24) ?hr ?_; (case hd => rfl); (case hg => rfl); (case hr => first | (go_simp; done) | (go_simp; rfl)); intro gb418 hg w4 hbox hb; have n0_ := Aside0.mk (below_step (by repeat (first | (with_reducible first | exact HB.out | apply below_alloc | apply pw_below_drewN | apply below_drew1) | exact HB.out)) hb); have n1_ := Aside0.mk (hbox); have n2_ := Aside0.mk ((by rw [hg]; exact (below_size (by repeat (first | (with_reducible first | exact HB.out | apply below_alloc | apply pw_below_drewN | apply below_drew1) | exact HB.out))) : w.heap.size ≤ gb418)); have n3_ := Aside0.mk ((by rw [hg]; exact (below_size (by repeat (first | (with_reducible first | exact HB.out | apply below_alloc | apply pw_below_drewN | apply below_drew1) | exact HB.out))) : w.heap.size ≤ gb418)); clear HB; have HB := n0_; have BK418 := n1_; have GW418 := n2_; have GE418 := n3_; clear n0_ n1_ n2_ n3_; clear hb hbox hg))
  (try simp only [Act.put, List.setIfInBounds_toArray, List.set_cons_zero, List.set_cons_succ])
  go_cut [16] (fun v16 wc => ∃ (kq : Nat) (x16_2 : Bool), v16 = .bool x16_2 ∧ Aside0 (zone_Local.j0 kq a1 x16_2 a0_0 a0_1 l0_2 = some (r1, r2, r3)) ∧ Aside0 (kq ≤ k) ∧ Aside0 (wc.heap[gb418]? = some (.cells #[.string a0_0, .int .i64 a0_1, (.slice A0_2 l0_2.length c0_2)] 24 (0, 0))) ∧ Aside0 (Below w.heap.size w wc))
  case first =>
    have H := HC3.out
    clear HC3
    replace H := Option.bind_eq_some_iff.mp H
    obtain ⟨t419, A50, H⟩ := H
    replace H : (if t419 = true then ((zone_Valid.f k a0_0 a0_1 l0_2).bind fun t420 => (zone_Local.j0 k a1 (!t420) a0_0 a0_1 l0_2)) else (zone_Local.j0 k a1 true a0_0 a0_1 l0_2)) = some (r1, r2, r3) := H
    have A5 := Aside0.mk A50
    clear A50
    by_cases c6 : t419 = true
    · subst c6
      have H1 : ((zone_Valid.f k a0_0 a0_1 l0_2).bind fun t420 => (zone_Local.j0 k a1 (!t420) a0_0 a0_1 l0_2)) = some (r1, r2, r3) := by rw [if_pos rfl] at H; exact H
      clear H
      have H := H1
      clear H1
      replace H := Option.bind_eq_some_iff.mp H
      obtain ⟨t420, A70, H⟩ := H
      replace H : (zone_Local.j0 k a1 (!t420) a0_0 a0_1 l0_2) = some (r1, r2, r3) := H
      have A7 := Aside0.mk A70
      clear A70
      have H' := Aside0.mk H
      clear H
      go_wp2_with (first | ((with_reducible refine gate_callee (f := 59) rfl ?_); refine goesL_ (some 10) rfl rfl Try.func59 (by kernel_rfl) rfl #[.int .i64 a1, .int .i64 0, .int .i64 52595999] rfl (by (try simp only [List.map_toArray, List.map_cons, List.map_nil]); first | done | rfl | (simp only [List.length_drop, List.length_take]; rfl)) ?_; (with_reducible refine (zone_between.calls a1 0 52595999 true _ A5.out).mono ?_); rintro e w' ⟨rfl, ⟨nd, rfl⟩⟩; refine ⟨_, rfl, ?_⟩; have hcz8_0 : w4.cell? ⟨gb418, 0, none⟩ = some (.string a0_0) := (blk_cell BK418.out 0).trans rfl; have hcz8_1 : w4.cell? ⟨gb418, 1, none⟩ = some (.int .i64 a0_1) := (blk_cell BK418.out 1).trans rfl; have hcz8_2 : w4.cell? ⟨gb418, 2, none⟩ = some (.slice A0_2 l0_2.length c0_2) := (blk_cell BK418.out 2).trans rfl; have hfz8_0 := blk_frozen BK418.out 0; have hfz8_1 := blk_frozen BK418.out 1; have hfz8_2 := blk_frozen BK418.out 2) | (go_at_call 38; (with_reducible refine (zone_Valid.calls k a0_0 a0_1 _ _ l0_2 t420 _ ?side1 ?side2 A7.out).mono ?_); (case side1 => repeat (first | exact (Kd.C_below HR0_2.out (by repeat (first | (with_reducible first | exact HB.out | apply below_alloc | apply pw_below_drewN | apply below_drew1 | refine below_set ?_ GE418.out) | exact HB.out))) | (with_reducible refine Kd.C_alloc ?_ _) | (with_reducible refine Kd.C_drewN ?_ _) | (with_reducible refine Kd.C_drew ?_))); (case side2 => exact HC0_2.out); rintro e w9 ⟨rfl, hb⟩; have n0_ := Aside0.mk (blk_below (g := gb418) (o := .cells #[.string a0_0, .int .i64 a0_1, .slice A0_2 l0_2.length c0_2] 24 (0, 0)) (by (with_reducible repeat (first | refine blk_drewN ?_ _ | refine blk_drew ?_ | refine blk_alloc ?_ _)); exact BK418.out) hb); have n1_ := Aside0.mk (below_step (by repeat (first | (with_reducible first | exact HB.out | apply below_alloc | apply pw_below_drewN | apply below_drew1 | refine below_set ?_ GE418.out) | exact HB.out)) hb); clear BK418; clear HB; have BK418 := n0_; have HB := n1_; clear n0_ n1_; (try clear hb); (try clear hb2); (try clear hk); (try clear hi)))
      go_meet
      case rel => exact ⟨_, (!t420), (by first | rfl | (simp; done) | (simp [*]; done)), H', ⟨by first | omega | exact Nat.le_refl _⟩, ⟨by (with_reducible repeat (first | refine blk_drewN ?_ _ | refine blk_drew ?_ | refine blk_alloc ?_ _)); exact BK418.out⟩, ⟨by repeat (first | (with_reducible first | exact HB.out | apply below_alloc | apply pw_below_drewN | apply below_drew1 | refine below_set ?_ GE418.out) | exact HB.out)⟩⟩
    · replace c6 := Bool.eq_false_iff.mpr c6
      subst c6
      have H1 : (zone_Local.j0 k a1 true a0_0 a0_1 l0_2) = some (r1, r2, r3) := by rw [if_neg (show ¬ (false = true) by decide)] at H; exact H
      clear H
      have H := H1
      clear H1
      have H' := Aside0.mk H
      clear H
      go_wp2_with (first | ((with_reducible refine gate_callee (f := 59) rfl ?_); refine goesL_ (some 10) rfl rfl Try.func59 (by kernel_rfl) rfl #[.int .i64 a1, .int .i64 0, .int .i64 52595999] rfl (by (try simp only [List.map_toArray, List.map_cons, List.map_nil]); first | done | rfl | (simp only [List.length_drop, List.length_take]; rfl)) ?_; (with_reducible refine (zone_between.calls a1 0 52595999 false _ A5.out).mono ?_); rintro e w' ⟨rfl, ⟨nd, rfl⟩⟩; refine ⟨_, rfl, ?_⟩))
      go_meet
      case rel => exact ⟨_, (true), (by first | rfl | (simp; done) | (simp [*]; done)), H', ⟨by first | omega | exact Nat.le_refl _⟩, ⟨by (with_reducible repeat (first | refine blk_drewN ?_ _ | refine blk_drew ?_ | refine blk_alloc ?_ _)); exact BK418.out⟩, ⟨by repeat (first | (with_reducible first | exact HB.out | apply below_alloc | apply pw_below_drewN | apply below_drew1 | refine below_set ?_ GE418.out) | exact HB.out)⟩⟩
  case rest =>
    clear HC3
    try clear p2
    try clear c3
    try clear c5
    try clear c6
    try clear hcz8_0
    try clear hcz8_1
    try clear hcz8_2
    try clear hfz8_0
    try clear hfz8_1
    try clear hfz8_2
    obtain ⟨kq, x16_2, rfl, HA, HJ2, BK418, HB⟩ := hcut
    cases kq with
    | zero => exact absurd HA.out (by simp [zone_Local.j0])
    | succ kj2 =>
      have H := HA.out
      clear HA
      simp only [zone_Local.j0] at H
      by_cases c10 : x16_2 = true
      · subst c10
        have H1 : (some (0, 0, 1)) = some (r1, r2, r3) := by rw [if_pos rfl] at H; exact H
        clear H
        have H := H1
        clear H1
        simp only [Option.some.injEq, Prod.mk.injEq] at H
        obtain ⟨rfl, rfl, rfl⟩ := H
        go_wp2
        go_ret3
        exact ⟨by first | rfl | (simp [errW_none, errW_some] <;> rfl) | (simp [*, errW_none, errW_some] <;> rfl), by repeat (first | (with_reducible first | exact HB.out | apply below_alloc | apply pw_below_drewN | apply below_drew1 | refine below_set ?_ GE418.out) | exact HB.out)⟩
      · replace c10 := Bool.eq_false_iff.mpr c10
        subst c10
        have H1 : ((zone_offset.f a0_0 a0_1 l0_2 a1).bind fun t421 => ((zone_dayOf.f (wrap64 (a1 + t421))).bind fun t422 => ((zone_between.f t422 0 36524).bind fun t423 => (if t423 = true then (some (t422, wrap64 ((wrap64 (a1 + t421)) - (wrap64 (t422 * 1440))), 0)) else (some (0, 0, 21)))))) = some (r1, r2, r3) := by rw [if_neg (show ¬ (false = true) by decide)] at H; exact H
        clear H
        have H := H1
        clear H1
        replace H := Option.bind_eq_some_iff.mp H
        obtain ⟨t421, A110, H⟩ := H
        replace H : ((zone_dayOf.f (wrap64 (a1 + t421))).bind fun t422 => ((zone_between.f t422 0 36524).bind fun t423 => (if t423 = true then (some (t422, wrap64 ((wrap64 (a1 + t421)) - (wrap64 (t422 * 1440))), 0)) else (some (0, 0, 21))))) = some (r1, r2, r3) := H
        have A11 := Aside0.mk A110
        clear A110
        replace H := Option.bind_eq_some_iff.mp H
        obtain ⟨t422, A120, H⟩ := H
        replace H : ((zone_between.f t422 0 36524).bind fun t423 => (if t423 = true then (some (t422, wrap64 ((wrap64 (a1 + t421)) - (wrap64 (t422 * 1440))), 0)) else (some (0, 0, 21)))) = some (r1, r2, r3) := H
        have A12 := Aside0.mk A120
        clear A120
        replace H := Option.bind_eq_some_iff.mp H
        obtain ⟨t423, A130, H⟩ := H
        replace H : (if t423 = true then (some (t422, wrap64 ((wrap64 (a1 + t421)) - (wrap64 (t422 * 1440))), 0)) else (some (0, 0, 21))) = some (r1, r2, r3) := H
        have A13 := Aside0.mk A130
        clear A130
        by_cases c14 : t423 = true
        · subst c14
          have H1 : (some (t422, wrap64 ((wrap64 (a1 + t421)) - (wrap64 (t422 * 1440))), 0)) = some (r1, r2, r3) := by rw [if_pos rfl] at H; exact H
          clear H
          have H := H1
          clear H1
          simp only [Option.some.injEq, Prod.mk.injEq] at H
          obtain ⟨rfl, rfl, rfl⟩ := H
          have hcz15_0 : wc.cell? ⟨gb418, 0, none⟩ = some (.string a0_0) := (blk_cell BK418.out 0).trans rfl
          have hcz15_1 : wc.cell? ⟨gb418, 1, none⟩ = some (.int .i64 a0_1) := (blk_cell BK418.out 1).trans rfl
          have hcz15_2 : wc.cell? ⟨gb418, 2, none⟩ = some (.slice A0_2 l0_2.length c0_2) := (blk_cell BK418.out 2).trans rfl
          have hfz15_0 := blk_frozen BK418.out 0
          have hfz15_1 := blk_frozen BK418.out 1
          have hfz15_2 := blk_frozen BK418.out 2
          go_wp2_with (first | ((with_reducible refine gate_callee (f := 60) rfl ?_); refine goesL_ (some 20) rfl rfl Try.func60 (by kernel_rfl) rfl #[.agg #[.string a0_0, .int .i64 a0_1, .slice A0_2 l0_2.length c0_2], .int .i64 a1] rfl (by (try simp only [List.map_toArray, List.map_cons, List.map_nil]); first | done | rfl | (simp only [List.length_drop, List.length_take]; rfl)) ?_; (with_reducible refine (zone_offset.calls a0_0 a0_1 _ _ l0_2 a1 t421 _ ?side1 ?side2 A11.out).mono ?_); (case side1 => repeat (first | exact (Kd.C_below HR0_2.out HB.out) | (with_reducible refine Kd.C_alloc ?_ _) | (with_reducible refine Kd.C_drewN ?_ _) | (with_reducible refine Kd.C_drew ?_))); (case side2 => exact HC0_2.out); rintro e w16 ⟨rfl, hb⟩; refine ⟨_, rfl, ?_⟩; have n0_ := Aside0.mk (blk_below (g := gb418) (o := .cells #[.string a0_0, .int .i64 a0_1, .slice A0_2 l0_2.length c0_2] 24 (0, 0)) (by (with_reducible repeat (first | refine blk_drewN ?_ _ | refine blk_drew ?_ | refine blk_alloc ?_ _)); exact BK418.out) hb); have n1_ := Aside0.mk (below_step (by repeat (first | (with_reducible first | exact HB.out | apply below_alloc | apply pw_below_drewN | apply below_drew1 | refine below_set ?_ GE418.out) | exact HB.out)) hb); clear BK418; clear HB; have BK418 := n0_; have HB := n1_; clear n0_ n1_; (try clear hb); (try clear hb2); (try clear hk); (try clear hi)) | ((with_reducible refine gate_callee (f := 61) rfl ?_); refine goesL_ (some 23) rfl rfl Try.func61 (by kernel_rfl) rfl #[.int .i64 (wrap64 (a1 + t421))] rfl (by (try simp only [List.map_toArray, List.map_cons, List.map_nil]); first | done | rfl | (simp only [List.length_drop, List.length_take]; rfl)) ?_; (with_reducible refine (zone_dayOf.calls (wrap64 (a1 + t421)) t422 _ A12.out).mono ?_); rintro e w' ⟨rfl, ⟨nd, rfl⟩⟩; refine ⟨_, rfl, ?_⟩) | ((with_reducible refine gate_callee (f := 59) rfl ?_); refine goesL_ (some 25) rfl rfl Try.func59 (by kernel_rfl) rfl #[.int .i64 t422, .int .i64 0, .int .i64 36524] rfl (by (try simp only [List.map_toArray, List.map_cons, List.map_nil]); first | done | rfl | (simp only [List.length_drop, List.length_take]; rfl)) ?_; (with_reducible refine (zone_between.calls t422 0 36524 true _ A13.out).mono ?_); rintro e w' ⟨rfl, ⟨nd, rfl⟩⟩; refine ⟨_, rfl, ?_⟩))
          go_ret3
          exact ⟨by first | rfl | (simp [errW_none, errW_some] <;> rfl) | (simp [*, errW_none, errW_some] <;> rfl), by repeat (first | (with_reducible first | exact HB.out | apply below_alloc | apply pw_below_drewN | apply below_drew1 | refine below_set ?_ GE418.out) | exact HB.out)⟩
        · replace c14 := Bool.eq_false_iff.mpr c14
          subst c14
          have H1 : (some (0, 0, 21)) = some (r1, r2, r3) := by rw [if_neg (show ¬ (false = true) by decide)] at H; exact H
          clear H
          have H := H1
          clear H1
          simp only [Option.some.injEq, Prod.mk.injEq] at H
          obtain ⟨rfl, rfl, rfl⟩ := H
          have hcz17_0 : wc.cell? ⟨gb418, 0, none⟩ = some (.string a0_0) := (blk_cell BK418.out 0).trans rfl
          have hcz17_1 : wc.cell? ⟨gb418, 1, none⟩ = some (.int .i64 a0_1) := (blk_cell BK418.out 1).trans rfl
          have hcz17_2 : wc.cell? ⟨gb418, 2, none⟩ = some (.slice A0_2 l0_2.length c0_2) := (blk_cell BK418.out 2).trans rfl
          have hfz17_0 := blk_frozen BK418.out 0
          have hfz17_1 := blk_frozen BK418.out 1
          have hfz17_2 := blk_frozen BK418.out 2
          go_wp2_with (first | ((with_reducible refine gate_callee (f := 60) rfl ?_); refine goesL_ (some 20) rfl rfl Try.func60 (by kernel_rfl) rfl #[.agg #[.string a0_0, .int .i64 a0_1, .slice A0_2 l0_2.length c0_2], .int .i64 a1] rfl (by (try simp only [List.map_toArray, List.map_cons, List.map_nil]); first | done | rfl | (simp only [List.length_drop, List.length_take]; rfl)) ?_; (with_reducible refine (zone_offset.calls a0_0 a0_1 _ _ l0_2 a1 t421 _ ?side1 ?side2 A11.out).mono ?_); (case side1 => repeat (first | exact (Kd.C_below HR0_2.out HB.out) | (with_reducible refine Kd.C_alloc ?_ _) | (with_reducible refine Kd.C_drewN ?_ _) | (with_reducible refine Kd.C_drew ?_))); (case side2 => exact HC0_2.out); rintro e w18 ⟨rfl, hb⟩; refine ⟨_, rfl, ?_⟩; have n0_ := Aside0.mk (blk_below (g := gb418) (o := .cells #[.string a0_0, .int .i64 a0_1, .slice A0_2 l0_2.length c0_2] 24 (0, 0)) (by (with_reducible repeat (first | refine blk_drewN ?_ _ | refine blk_drew ?_ | refine blk_alloc ?_ _)); exact BK418.out) hb); have n1_ := Aside0.mk (below_step (by repeat (first | (with_reducible first | exact HB.out | apply below_alloc | apply pw_below_drewN | apply below_drew1 | refine below_set ?_ GE418.out) | exact HB.out)) hb); clear BK418; clear HB; have BK418 := n0_; have HB := n1_; clear n0_ n1_; (try clear hb); (try clear hb2); (try clear hk); (try clear hi)) | ((with_reducible refine gate_callee (f := 61) rfl ?_); refine goesL_ (some 23) rfl rfl Try.func61 (by kernel_rfl) rfl #[.int .i64 (wrap64 (a1 + t421))] rfl (by (try simp only [List.map_toArray, List.map_cons, List.map_nil]); first | done | rfl | (simp only [List.length_drop, List.length_take]; rfl)) ?_; (with_reducible refine (zone_dayOf.calls (wrap64 (a1 + t421)) t422 _ A12.out).mono ?_); rintro e w' ⟨rfl, ⟨nd, rfl⟩⟩; refine ⟨_, rfl, ?_⟩) | ((with_reducible refine gate_callee (f := 59) rfl ?_); refine goesL_ (some 25) rfl rfl Try.func59 (by kernel_rfl) rfl #[.int .i64 t422, .int .i64 0, .int .i64 36524] rfl (by (try simp only [List.map_toArray, List.map_cons, List.map_nil]); first | done | rfl | (simp only [List.length_drop, List.length_take]; rfl)) ?_; (with_reducible refine (zone_between.calls t422 0 36524 false _ A13.out).mono ?_); rintro e w' ⟨rfl, ⟨nd, rfl⟩⟩; refine ⟨_, rfl, ?_⟩))
          go_ret3
          exact ⟨by first | rfl | (simp [errW_none, errW_some] <;> rfl) | (simp [*, errW_none, errW_some] <;> rfl), by repeat (first | (with_reducible first | exact HB.out | apply below_alloc | apply pw_below_drewN | apply below_drew1 | refine below_set ?_ GE418.out) | exact HB.out)⟩
def zone_Offset.l0 : Nat → Int → Int → List (S75) → Int → Int → Option (Int)
  | 0, _, _, _, _, _ => none
  | k + 1, x1, x5, x14, x15, x16 => if x16 < x15 then (if 0 ≤ x16 then (if x16 < (x14.length : Int) then (if ((rd_T75 x14 x16).f0) ≤ x1 then (zone_Offset.l0 k x1 ((rd_T75 x14 x16).f1) x14 x15 (wrap64 (x16 + 1))) else (zone_Offset.l0 k x1 x5 x14 x15 (wrap64 (x16 + 1)))) else (none)) else (none)) else (some x5)
def zone_Offset.f (k : Nat) (a0_0 : ByteArray) (a0_1 : Int) (l0_2 : List (S75)) (a1 : Int) : Option (Int) := (zone_Valid.f k a0_0 a0_1 l0_2).bind fun t425 => (if t425 = true then (zone_Offset.l0 k a1 a0_1 l0_2 (l0_2.length : Int) 0) else (some 0))
theorem zone_Offset.mono_l : ∀ k, (∀ y0 y1 y2 y3 y4, LeO (zone_Offset.l0 k y0 y1 y2 y3 y4) (zone_Offset.l0 (k + 1) y0 y1 y2 y3 y4))
  | 0 => fun _ _ _ _ _ r h => by simp [zone_Offset.l0] at h
  | k + 1 => by
    have ih0 := zone_Offset.mono_l k
    · intro y0 y1 y2 y3 y4
      unfold zone_Offset.l0
      repeat' first
      | (with_reducible exact ih0 _ _ _ _ _)
      | (with_reducible exact zone_Valid.mono _ _ _ _)
      | (with_reducible exact LeO.refl _)
      | (with_reducible exact LeO.none _)
      | (with_reducible refine LeO.ite ?_ ?_)
      | (with_reducible refine LeO.bind ?_ (fun _ => ?_))
      | exact ih0 _ _ _ _ _
      | exact zone_Valid.mono _ _ _ _
      | exact LeO.none _
      | refine LeO.ite ?_ ?_
      | refine LeO.bind ?_ (fun _ => ?_)
theorem zone_Offset.mono : ∀ a0 a1 a2 a3 k, LeO (zone_Offset.f k a0 a1 a2 a3) (zone_Offset.f (k + 1) a0 a1 a2 a3) := by
  intro a0 a1 a2 a3 k
  have ih0 := zone_Offset.mono_l k
  unfold zone_Offset.f
  repeat' first
      | (with_reducible exact ih0 _ _ _ _ _)
      | (with_reducible exact zone_Valid.mono _ _ _ _)
      | (with_reducible exact LeO.refl _)
      | (with_reducible exact LeO.none _)
      | (with_reducible refine LeO.ite ?_ ?_)
      | (with_reducible refine LeO.bind ?_ (fun _ => ?_))
      | exact ih0 _ _ _ _ _
      | exact zone_Valid.mono _ _ _ _
      | exact LeO.none _
      | refine LeO.ite ?_ ?_
      | refine LeO.bind ?_ (fun _ => ?_)
set_option maxHeartbeats 8000000 in
set_option maxRecDepth 100000 in
theorem zone_Offset.calls (k : Nat) (a0_0 : ByteArray) (a0_1 : Int) (A0_2 : Option Addr) (c0_2 : Nat) (l0_2 : List (S75)) (a1 : Int) (r : Int) (w : World) (hr0_2 : Kd.C k75 w A0_2 l0_2.length l0_2) (hc0_2 : l0_2.length ≤ c0_2) (h : zone_Offset.f k a0_0 a0_1 l0_2 a1 = some r) :
    Calls Try.prog 40 #[.agg #[.string a0_0, .int .i64 a0_1, .slice A0_2 l0_2.length c0_2], .int .i64 a1] w fun e w' => e = .returned (.int .i64 r) ∧ Below w.heap.size w w' := by
  have hu24 := Try.underlying24
  have hu75 := Try.underlying75
  have HR0_2 := Aside0.mk hr0_2
  have HC0_2 := Aside0.mk hc0_2
  clear hr0_2 hc0_2
  have HB := Aside0.mk (Below.refl w.heap.size w)
  have H : ((zone_Valid.f k a0_0 a0_1 l0_2).bind fun t425 => (if t425 = true then (zone_Offset.l0 k a1 a0_1 l0_2 (l0_2.length : Int) 0) else (some 0))) = some r := h
  clear h
  replace H := Option.bind_eq_some_iff.mp H
  obtain ⟨t425, A30, H⟩ := H
  replace H : (if t425 = true then (zone_Offset.l0 k a1 a0_1 l0_2 (l0_2.length : Int) 0) else (some 0)) = some r := H
  have A3 := Aside0.mk A30
  clear A30
  by_cases c4 : t425 = true
  · subst c4
    have H1 : (zone_Offset.l0 k a1 a0_1 l0_2 (l0_2.length : Int) 0) = some r := by rw [if_pos rfl] at H; exact H
    clear H
    have H := H1
    clear H1
    have H' := Aside0.mk H
    clear H
    go_enter Try.func40, Try.ntmps40
    go_wp2_with (first | ((with_reducible refine gate_dst (N := 2) rfl ?_); refine box_event ?hg (N := 2) ?hd (cs := #[.string a0_0, .int .i64 a0_1, .slice A0_2 l0_2.length c0_2]) (t := 24) ?hr ?_; (case hd => rfl); (case hg => rfl); (case hr => first | (go_simp; done) | (go_simp; rfl)); intro gb424 hg w5 hbox hb; have n0_ := Aside0.mk (below_step (by repeat (first | (with_reducible first | exact HB.out | apply below_alloc | apply pw_below_drewN | apply below_drew1) | exact HB.out)) hb); have n1_ := Aside0.mk (hbox); have n2_ := Aside0.mk ((by rw [hg]; exact (below_size (by repeat (first | (with_reducible first | exact HB.out | apply below_alloc | apply pw_below_drewN | apply below_drew1) | exact HB.out))) : w.heap.size ≤ gb424)); have n3_ := Aside0.mk ((by rw [hg]; exact (below_size (by repeat (first | (with_reducible first | exact HB.out | apply below_alloc | apply pw_below_drewN | apply below_drew1) | exact HB.out))) : w.heap.size ≤ gb424)); clear HB; have HB := n0_; have BK424 := n1_; have GW424 := n2_; have GE424 := n3_; clear n0_ n1_ n2_ n3_; clear hb hbox hg; have hcz6_0 : w5.cell? ⟨gb424, 0, none⟩ = some (.string a0_0) := (blk_cell BK424.out 0).trans rfl; have hcz6_1 : w5.cell? ⟨gb424, 1, none⟩ = some (.int .i64 a0_1) := (blk_cell BK424.out 1).trans rfl; have hcz6_2 : w5.cell? ⟨gb424, 2, none⟩ = some (.slice A0_2 l0_2.length c0_2) := (blk_cell BK424.out 2).trans rfl; have hfz6_0 := blk_frozen BK424.out 0; have hfz6_1 := blk_frozen BK424.out 1; have hfz6_2 := blk_frozen BK424.out 2) | ((with_reducible refine gate_callee (f := 38) rfl ?_); refine goesL_ (some 9) rfl rfl Try.func38 (by kernel_rfl) rfl #[.agg #[.string a0_0, .int .i64 a0_1, .slice A0_2 l0_2.length c0_2]] rfl (by (try simp only [List.map_toArray, List.map_cons, List.map_nil]); first | done | rfl | (simp only [List.length_drop, List.length_take]; rfl)) ?_; (with_reducible refine (zone_Valid.calls k a0_0 a0_1 _ _ l0_2 true _ ?side1 ?side2 A3.out).mono ?_); (case side1 => repeat (first | exact (Kd.C_below HR0_2.out HB.out) | (with_reducible refine Kd.C_alloc ?_ _) | (with_reducible refine Kd.C_drewN ?_ _) | (with_reducible refine Kd.C_drew ?_))); (case side2 => exact HC0_2.out); rintro e w7 ⟨rfl, hb⟩; refine ⟨_, rfl, ?_⟩; have n0_ := Aside0.mk (blk_below (g := gb424) (o := .cells #[.string a0_0, .int .i64 a0_1, .slice A0_2 l0_2.length c0_2] 24 (0, 0)) (by (with_reducible repeat (first | refine blk_drewN ?_ _ | refine blk_drew ?_ | refine blk_alloc ?_ _)); exact BK424.out) hb); have n1_ := Aside0.mk (below_step (by repeat (first | (with_reducible first | exact HB.out | apply below_alloc | apply pw_below_drewN | apply below_drew1 | refine below_set ?_ GE424.out) | exact HB.out)) hb); clear BK424; clear HB; have BK424 := n0_; have HB := n1_; clear n0_ n1_; (try clear hb); (try clear hb2); (try clear hk); (try clear hi); have hcz8_0 : w7.cell? ⟨gb424, 0, none⟩ = some (.string a0_0) := (blk_cell BK424.out 0).trans rfl; have hcz8_1 : w7.cell? ⟨gb424, 1, none⟩ = some (.int .i64 a0_1) := (blk_cell BK424.out 1).trans rfl; have hcz8_2 : w7.cell? ⟨gb424, 2, none⟩ = some (.slice A0_2 l0_2.length c0_2) := (blk_cell BK424.out 2).trans rfl; have hfz8_0 := blk_frozen BK424.out 0; have hfz8_1 := blk_frozen BK424.out 1; have hfz8_2 := blk_frozen BK424.out 2))
    go_loopg [5, 16] k (fun kq v5 v16 w' => ∃ (x5_1 : Int) (x16_1 : Int), v5 = .int .i64 x5_1 ∧ v16 = .int .i64 x16_1 ∧ Aside0 (zone_Offset.l0 kq a1 x5_1 l0_2 (l0_2.length : Int) x16_1 = some r) ∧ Aside0 (kq ≤ k) ∧ Aside0 (w'.heap[gb424]? = some (.cells #[.string a0_0, .int .i64 a0_1, (.slice A0_2 l0_2.length c0_2)] 24 (0, 0))) ∧ Aside0 (Below w.heap.size w w'))
    case atStart => exact ⟨(a0_1), (0), (by first | rfl | (simp; done) | (simp [*]; done)), (by first | rfl | (simp; done) | (simp [*]; done)), H', ⟨Nat.le_refl _⟩, ⟨by (with_reducible repeat (first | refine blk_drewN ?_ _ | refine blk_drew ?_ | refine blk_alloc ?_ _)); exact BK424.out⟩, ⟨by repeat (first | (with_reducible first | exact HB.out | apply below_alloc | apply pw_below_drewN | apply below_drew1 | refine below_set ?_ GE424.out) | exact HB.out)⟩⟩
    case round =>
      clear H'
      try clear p2
      try clear c3
      try clear c4
      try clear hcz6_0
      try clear hcz6_1
      try clear hcz6_2
      try clear hcz8_0
      try clear hcz8_1
      try clear hcz8_2
      try clear hfz6_0
      try clear hfz6_1
      try clear hfz6_2
      try clear hfz8_0
      try clear hfz8_1
      try clear hfz8_2
      obtain ⟨x5_1, x16_1, rfl, rfl, HA, HK1, BK424, HB⟩ := hrel
      cases gk with
      | zero => exact absurd HA.out (by simp [zone_Offset.l0])
      | succ k1 =>
        have H := HA.out
        clear HA
        simp only [zone_Offset.l0] at H
        by_cases c9 : x16_1 < (l0_2.length : Int)
        · rw [if_pos c9] at H
          have c9b0 : decide (x16_1 < (l0_2.length : Int)) = true := decide_eq_true c9
          clear c9
          by_cases c10 : 0 ≤ x16_1
          · rw [if_pos c10] at H
            have c10b0 : decide (0 ≤ x16_1) = true := decide_eq_true c10
            clear c10
            by_cases c11 : x16_1 < (l0_2.length : Int)
            · rw [if_pos c11] at H
              have c11b0 : decide (x16_1 < (l0_2.length : Int)) = true := decide_eq_true c11
              clear c11
              by_cases c12 : ((rd_T75 l0_2 x16_1).f0) ≤ a1
              · rw [if_pos c12] at H
                have c12b0 : decide (((rd_T75 l0_2 x16_1).f0) ≤ a1) = true := decide_eq_true c12
                clear c12
                have H' := Aside0.mk H
                clear H
                have p426 : 0 ≤ (x16_1 : Int) := of_decide_eq_true (by first | (with_reducible assumption) | assumption)
                have q426 : x16_1 < (l0_2.length : Int) := of_decide_eq_true (by first | (with_reducible assumption) | assumption)
                obtain ⟨ad426, e426, hx426_0, hx426_1⟩ := at_T75 HR0_2.out x16_1 p426 q426
                cases e426
                replace hx426_0 := (HB.out.cell (World.block_lt_of_cell? w _ hx426_0)).trans hx426_0
                replace hx426_1 := (HB.out.cell (World.block_lt_of_cell? w _ hx426_1)).trans hx426_1
                replace p426 := eq_true p426
                replace q426 := eq_true q426
                go_wp2_with (first | ((with_reducible refine gate_dst (N := 7) rfl ?_); refine box_event ?hg (N := 7) ?hd (cs := #[.int .i64 0, .int .i64 0]) (t := 75) ?hr ?_; (case hd => rfl); (case hg => rfl); (case hr => first | (go_simp; done) | (go_simp; rfl)); intro gb427 hg w13 hbox hb; have n0_ := Aside0.mk (blk_below (g := gb424) (o := .cells #[.string a0_0, .int .i64 a0_1, .slice (some ad426) l0_2.length c0_2] 24 (0, 0)) (by (with_reducible repeat (first | refine blk_drewN ?_ _ | refine blk_drew ?_ | refine blk_alloc ?_ _)); exact BK424.out) hb); have n1_ := Aside0.mk (below_step (by repeat (first | (with_reducible first | exact HB.out | apply below_alloc | apply pw_below_drewN | apply below_drew1 | refine below_set ?_ GE424.out) | exact HB.out)) hb); have n2_ := Aside0.mk (hbox); have n3_ := Aside0.mk ((by rw [hg]; exact (below_size (by repeat (first | (with_reducible first | exact HB.out | apply below_alloc | apply pw_below_drewN | apply below_drew1 | refine below_set ?_ GE424.out) | exact HB.out))) : w.heap.size ≤ gb427)); have n4_ := Aside0.mk ((by rw [hg]; exact (below_size (by repeat (first | (with_reducible first | exact HB.out | apply below_alloc | apply pw_below_drewN | apply below_drew1 | refine below_set ?_ GE424.out) | exact HB.out))) : w.heap.size ≤ gb427)); have n5_ := Aside0.mk ((by rw [hg]; exact Nat.ne_of_lt (blk_lt (g := gb424) (o := .cells #[.string a0_0, .int .i64 a0_1, .slice (some ad426) l0_2.length c0_2] 24 (0, 0)) (by (with_reducible repeat (first | refine blk_drewN ?_ _ | refine blk_drew ?_ | refine blk_alloc ?_ _)); exact BK424.out)) : gb424 ≠ gb427)); have n6_ := Aside0.mk ((by rw [hg]; exact Nat.ne_of_gt (blk_lt (g := gb424) (o := .cells #[.string a0_0, .int .i64 a0_1, .slice (some ad426) l0_2.length c0_2] 24 (0, 0)) (by (with_reducible repeat (first | refine blk_drewN ?_ _ | refine blk_drew ?_ | refine blk_alloc ?_ _)); exact BK424.out)) : gb427 ≠ gb424)); clear BK424; clear HB; have BK424 := n0_; have HB := n1_; have BK427 := n2_; have GW427 := n3_; have GE427 := n4_; have NB424_427 := n5_; have NB427_424 := n6_; clear n0_ n1_ n2_ n3_ n4_ n5_ n6_; clear hb hbox hg; have hnb14 := NB427_424.out; have hnc14 := NB424_427.out; have hcz15_0 : w13.cell? ⟨gb427, 0, none⟩ = some (.int .i64 0) := (blk_cell BK427.out 0).trans rfl; have hcz15_1 : w13.cell? ⟨gb427, 1, none⟩ = some (.int .i64 0) := (blk_cell BK427.out 1).trans rfl; have hfz15_0 := blk_frozen BK427.out 0; have hfz15_1 := blk_frozen BK427.out 1))
                go_roundg k1
                case measure => have := HK1.out; omega
                case rel => exact ⟨((rd_T75 l0_2 x16_1).f1), (wrap64 (x16_1 + 1)), (by first | rfl | (simp; done) | (simp [*]; done)), (by first | rfl | (simp; done) | (simp [*]; done)), H', ⟨by have := HK1.out; omega⟩, ⟨by (with_reducible repeat (first | refine blk_drewN ?_ _ | refine blk_drew ?_ | refine blk_alloc ?_ _)); refine blk_far ?_ NB424_427.out _; (with_reducible repeat (first | refine blk_drewN ?_ _ | refine blk_drew ?_ | refine blk_alloc ?_ _)); refine blk_far ?_ NB424_427.out _; (with_reducible repeat (first | refine blk_drewN ?_ _ | refine blk_drew ?_ | refine blk_alloc ?_ _)); exact BK424.out⟩, ⟨by repeat (first | (with_reducible first | exact HB.out | apply below_alloc | apply pw_below_drewN | apply below_drew1 | refine below_set ?_ GE424.out | refine below_set ?_ GE427.out) | exact HB.out)⟩⟩
              · rw [if_neg c12] at H
                have c12b0 : decide (((rd_T75 l0_2 x16_1).f0) ≤ a1) = false := decide_eq_false c12
                clear c12
                have H' := Aside0.mk H
                clear H
                have p426 : 0 ≤ (x16_1 : Int) := of_decide_eq_true (by first | (with_reducible assumption) | assumption)
                have q426 : x16_1 < (l0_2.length : Int) := of_decide_eq_true (by first | (with_reducible assumption) | assumption)
                obtain ⟨ad426, e426, hx426_0, hx426_1⟩ := at_T75 HR0_2.out x16_1 p426 q426
                cases e426
                replace hx426_0 := (HB.out.cell (World.block_lt_of_cell? w _ hx426_0)).trans hx426_0
                replace hx426_1 := (HB.out.cell (World.block_lt_of_cell? w _ hx426_1)).trans hx426_1
                replace p426 := eq_true p426
                replace q426 := eq_true q426
                go_wp2_with (first | ((with_reducible refine gate_dst (N := 7) rfl ?_); refine box_event ?hg (N := 7) ?hd (cs := #[.int .i64 0, .int .i64 0]) (t := 75) ?hr ?_; (case hd => rfl); (case hg => rfl); (case hr => first | (go_simp; done) | (go_simp; rfl)); intro gb427 hg w16 hbox hb; have n0_ := Aside0.mk (blk_below (g := gb424) (o := .cells #[.string a0_0, .int .i64 a0_1, .slice (some ad426) l0_2.length c0_2] 24 (0, 0)) (by (with_reducible repeat (first | refine blk_drewN ?_ _ | refine blk_drew ?_ | refine blk_alloc ?_ _)); exact BK424.out) hb); have n1_ := Aside0.mk (below_step (by repeat (first | (with_reducible first | exact HB.out | apply below_alloc | apply pw_below_drewN | apply below_drew1 | refine below_set ?_ GE424.out) | exact HB.out)) hb); have n2_ := Aside0.mk (hbox); have n3_ := Aside0.mk ((by rw [hg]; exact (below_size (by repeat (first | (with_reducible first | exact HB.out | apply below_alloc | apply pw_below_drewN | apply below_drew1 | refine below_set ?_ GE424.out) | exact HB.out))) : w.heap.size ≤ gb427)); have n4_ := Aside0.mk ((by rw [hg]; exact (below_size (by repeat (first | (with_reducible first | exact HB.out | apply below_alloc | apply pw_below_drewN | apply below_drew1 | refine below_set ?_ GE424.out) | exact HB.out))) : w.heap.size ≤ gb427)); have n5_ := Aside0.mk ((by rw [hg]; exact Nat.ne_of_lt (blk_lt (g := gb424) (o := .cells #[.string a0_0, .int .i64 a0_1, .slice (some ad426) l0_2.length c0_2] 24 (0, 0)) (by (with_reducible repeat (first | refine blk_drewN ?_ _ | refine blk_drew ?_ | refine blk_alloc ?_ _)); exact BK424.out)) : gb424 ≠ gb427)); have n6_ := Aside0.mk ((by rw [hg]; exact Nat.ne_of_gt (blk_lt (g := gb424) (o := .cells #[.string a0_0, .int .i64 a0_1, .slice (some ad426) l0_2.length c0_2] 24 (0, 0)) (by (with_reducible repeat (first | refine blk_drewN ?_ _ | refine blk_drew ?_ | refine blk_alloc ?_ _)); exact BK424.out)) : gb427 ≠ gb424)); clear BK424; clear HB; have BK424 := n0_; have HB := n1_; have BK427 := n2_; have GW427 := n3_; have GE427 := n4_; have NB424_427 := n5_; have NB427_424 := n6_; clear n0_ n1_ n2_ n3_ n4_ n5_ n6_; clear hb hbox hg; have hnb17 := NB427_424.out; have hnc17 := NB424_427.out; have hcz18_0 : w16.cell? ⟨gb427, 0, none⟩ = some (.int .i64 0) := (blk_cell BK427.out 0).trans rfl; have hcz18_1 : w16.cell? ⟨gb427, 1, none⟩ = some (.int .i64 0) := (blk_cell BK427.out 1).trans rfl; have hfz18_0 := blk_frozen BK427.out 0; have hfz18_1 := blk_frozen BK427.out 1))
                go_roundg k1
                case measure => have := HK1.out; omega
                case rel => exact ⟨(x5_1), (wrap64 (x16_1 + 1)), (by first | rfl | (simp; done) | (simp [*]; done)), (by first | rfl | (simp; done) | (simp [*]; done)), H', ⟨by have := HK1.out; omega⟩, ⟨by (with_reducible repeat (first | refine blk_drewN ?_ _ | refine blk_drew ?_ | refine blk_alloc ?_ _)); refine blk_far ?_ NB424_427.out _; (with_reducible repeat (first | refine blk_drewN ?_ _ | refine blk_drew ?_ | refine blk_alloc ?_ _)); refine blk_far ?_ NB424_427.out _; (with_reducible repeat (first | refine blk_drewN ?_ _ | refine blk_drew ?_ | refine blk_alloc ?_ _)); exact BK424.out⟩, ⟨by repeat (first | (with_reducible first | exact HB.out | apply below_alloc | apply pw_below_drewN | apply below_drew1 | refine below_set ?_ GE424.out | refine below_set ?_ GE427.out) | exact HB.out)⟩⟩
            · rw [if_neg c11] at H
              exact absurd H (by simp)
          · rw [if_neg c10] at H
            exact absurd H (by simp)
        · rw [if_neg c9] at H
          have c9b0 : decide (x16_1 < (l0_2.length : Int)) = false := decide_eq_false c9
          clear c9
          obtain rfl := Option.some.inj H
          go_wp2
          go_ret
          exact ⟨by first | rfl | (simp [errW_none, errW_some] <;> rfl) | (simp [*, errW_none, errW_some] <;> rfl), by repeat (first | (with_reducible first | exact HB.out | apply below_alloc | apply pw_below_drewN | apply below_drew1 | refine below_set ?_ GE424.out) | exact HB.out)⟩
  · replace c4 := Bool.eq_false_iff.mpr c4
    subst c4
    have H1 : (some 0) = some r := by rw [if_neg (show ¬ (false = true) by decide)] at H; exact H
    clear H
    have H := H1
    clear H1
    obtain rfl := Option.some.inj H
    go_enter Try.func40, Try.ntmps40
    go_wp2_with (first | ((with_reducible refine gate_dst (N := 2) rfl ?_); refine box_event ?hg (N := 2) ?hd (cs := #[.string a0_0, .int .i64 a0_1, .slice A0_2 l0_2.length c0_2]) (t := 24) ?hr ?_; (case hd => rfl); (case hg => rfl); (case hr => first | (go_simp; done) | (go_simp; rfl)); intro gb424 hg w19 hbox hb; have n0_ := Aside0.mk (below_step (by repeat (first | (with_reducible first | exact HB.out | apply below_alloc | apply pw_below_drewN | apply below_drew1) | exact HB.out)) hb); have n1_ := Aside0.mk (hbox); have n2_ := Aside0.mk ((by rw [hg]; exact (below_size (by repeat (first | (with_reducible first | exact HB.out | apply below_alloc | apply pw_below_drewN | apply below_drew1) | exact HB.out))) : w.heap.size ≤ gb424)); have n3_ := Aside0.mk ((by rw [hg]; exact (below_size (by repeat (first | (with_reducible first | exact HB.out | apply below_alloc | apply pw_below_drewN | apply below_drew1) | exact HB.out))) : w.heap.size ≤ gb424)); clear HB; have HB := n0_; have BK424 := n1_; have GW424 := n2_; have GE424 := n3_; clear n0_ n1_ n2_ n3_; clear hb hbox hg; have hcz20_0 : w19.cell? ⟨gb424, 0, none⟩ = some (.string a0_0) := (blk_cell BK424.out 0).trans rfl; have hcz20_1 : w19.cell? ⟨gb424, 1, none⟩ = some (.int .i64 a0_1) := (blk_cell BK424.out 1).trans rfl; have hcz20_2 : w19.cell? ⟨gb424, 2, none⟩ = some (.slice A0_2 l0_2.length c0_2) := (blk_cell BK424.out 2).trans rfl; have hfz20_0 := blk_frozen BK424.out 0; have hfz20_1 := blk_frozen BK424.out 1; have hfz20_2 := blk_frozen BK424.out 2) | ((with_reducible refine gate_callee (f := 38) rfl ?_); refine goesL_ (some 9) rfl rfl Try.func38 (by kernel_rfl) rfl #[.agg #[.string a0_0, .int .i64 a0_1, .slice A0_2 l0_2.length c0_2]] rfl (by (try simp only [List.map_toArray, List.map_cons, List.map_nil]); first | done | rfl | (simp only [List.length_drop, List.length_take]; rfl)) ?_; (with_reducible refine (zone_Valid.calls k a0_0 a0_1 _ _ l0_2 false _ ?side1 ?side2 A3.out).mono ?_); (case side1 => repeat (first | exact (Kd.C_below HR0_2.out HB.out) | (with_reducible refine Kd.C_alloc ?_ _) | (with_reducible refine Kd.C_drewN ?_ _) | (with_reducible refine Kd.C_drew ?_))); (case side2 => exact HC0_2.out); rintro e w21 ⟨rfl, hb⟩; refine ⟨_, rfl, ?_⟩; have n0_ := Aside0.mk (blk_below (g := gb424) (o := .cells #[.string a0_0, .int .i64 a0_1, .slice A0_2 l0_2.length c0_2] 24 (0, 0)) (by (with_reducible repeat (first | refine blk_drewN ?_ _ | refine blk_drew ?_ | refine blk_alloc ?_ _)); exact BK424.out) hb); have n1_ := Aside0.mk (below_step (by repeat (first | (with_reducible first | exact HB.out | apply below_alloc | apply pw_below_drewN | apply below_drew1 | refine below_set ?_ GE424.out) | exact HB.out)) hb); clear BK424; clear HB; have BK424 := n0_; have HB := n1_; clear n0_ n1_; (try clear hb); (try clear hb2); (try clear hk); (try clear hi)))
    go_ret
    exact ⟨by first | rfl | (simp [errW_none, errW_some] <;> rfl) | (simp [*, errW_none, errW_some] <;> rfl), by repeat (first | (with_reducible first | exact HB.out | apply below_alloc | apply pw_below_drewN | apply below_drew1 | refine below_set ?_ GE424.out) | exact HB.out)⟩
def wageofficeref03_Ints.l0 : Nat → List Int → List Int → Int → Option (Bool)
  | 0, _, _, _ => none
  | k + 1, x0, x1, x5 => if x5 < (x0.length : Int) then (if 0 ≤ x5 then (if x5 < (x1.length : Int) then (if (rd x0 x5) = (rd x1 x5) then (wageofficeref03_Ints.l0 k x0 x1 (wrap64 (x5 + 1))) else (some false)) else (none)) else (none)) else (some true)
def wageofficeref03_Ints.f (k : Nat) (l0 : List Int) (l1 : List Int) : Option (Bool) := if (l0.length : Int) = (l1.length : Int) then (wageofficeref03_Ints.l0 k l0 l1 0) else (some false)
theorem wageofficeref03_Ints.mono_l : ∀ k, (∀ y0 y1 y2, LeO (wageofficeref03_Ints.l0 k y0 y1 y2) (wageofficeref03_Ints.l0 (k + 1) y0 y1 y2))
  | 0 => fun _ _ _ r h => by simp [wageofficeref03_Ints.l0] at h
  | k + 1 => by
    have ih0 := wageofficeref03_Ints.mono_l k
    · intro y0 y1 y2
      unfold wageofficeref03_Ints.l0
      repeat' first
      | (with_reducible exact ih0 _ _ _)
      | (with_reducible exact LeO.refl _)
      | (with_reducible exact LeO.none _)
      | (with_reducible refine LeO.ite ?_ ?_)
      | (with_reducible refine LeO.bind ?_ (fun _ => ?_))
      | exact ih0 _ _ _
      | exact LeO.none _
      | refine LeO.ite ?_ ?_
      | refine LeO.bind ?_ (fun _ => ?_)
theorem wageofficeref03_Ints.mono : ∀ a0 a1 k, LeO (wageofficeref03_Ints.f k a0 a1) (wageofficeref03_Ints.f (k + 1) a0 a1) := by
  intro a0 a1 k
  have ih0 := wageofficeref03_Ints.mono_l k
  unfold wageofficeref03_Ints.f
  repeat' first
      | (with_reducible exact ih0 _ _ _)
      | (with_reducible exact LeO.refl _)
      | (with_reducible exact LeO.none _)
      | (with_reducible refine LeO.ite ?_ ?_)
      | (with_reducible refine LeO.bind ?_ (fun _ => ?_))
      | exact ih0 _ _ _
      | exact LeO.none _
      | refine LeO.ite ?_ ?_
      | refine LeO.bind ?_ (fun _ => ?_)
set_option maxHeartbeats 8000000 in
set_option maxRecDepth 100000 in
theorem wageofficeref03_Ints.calls (k : Nat) (A0 : Option Addr) (c0 : Nat) (l0 : List Int) (A1 : Option Addr) (c1 : Nat) (l1 : List Int) (r : Bool) (w : World) (hr0 : Kd.C (Kd.int .i64) w A0 l0.length l0) (hc0 : l0.length ≤ c0) (hr1 : Kd.C (Kd.int .i64) w A1 l1.length l1) (hc1 : l1.length ≤ c1) (h : wageofficeref03_Ints.f k l0 l1 = some r) :
    Calls Try.prog 46 #[.slice A0 l0.length c0, .slice A1 l1.length c1] w fun e w' => e = .returned (.bool r) ∧ Drawn0 w w' := by
  have HR0 := Aside0.mk hr0
  have HC0 := Aside0.mk hc0
  clear hr0 hc0
  have HR1 := Aside0.mk hr1
  have HC1 := Aside0.mk hc1
  clear hr1 hc1
  have H : (if (l0.length : Int) = (l1.length : Int) then (wageofficeref03_Ints.l0 k l0 l1 0) else (some false)) = some r := h
  clear h
  by_cases c3 : (l0.length : Int) = (l1.length : Int)
  · rw [if_pos c3] at H
    have c3b0 : ((l0.length : Int) == (l1.length : Int)) = true := beq_iff_eq.mpr c3
    have c3b1 : ((l0.length : Int) != (l1.length : Int)) = false := bne_eq_false_iff_eq.mpr c3
    have c3b2 : (l0.length == l1.length) = true := by first | simpa using c3 | (simp at c3 ⊢; omega)
    clear c3
    have H' := Aside0.mk H
    clear H
    go_enter Try.func46, Try.ntmps46
    go_wp2
    repeat (go_quiet (fail); try go_wp2)
    go_loopg [5] k (fun kq v5 w' => ∃ (x5_1 : Int), v5 = .int .i64 x5_1 ∧ Aside0 (wageofficeref03_Ints.l0 kq l0 l1 x5_1 = some r) ∧ Aside0 (kq ≤ k) ∧ Drawn0 w w')
    case atStart => exact ⟨(0), (by first | rfl | (simp; done) | (simp [*]; done)), H', ⟨Nat.le_refl _⟩, by repeat (first | exact Drawn0.refl _ | apply Drawn0.step)⟩
    case round =>
      clear H'
      try clear c1
      try clear p2
      try clear c3
      try clear c3b0
      try clear c3b1
      try clear c3b2
      obtain ⟨x5_1, rfl, HA, HK1, ⟨m1, rfl⟩⟩ := hrel
      cases gk with
      | zero => exact absurd HA.out (by simp [wageofficeref03_Ints.l0])
      | succ k1 =>
        have H := HA.out
        clear HA
        simp only [wageofficeref03_Ints.l0] at H
        by_cases c4 : x5_1 < (l0.length : Int)
        · rw [if_pos c4] at H
          have c4b0 : decide (x5_1 < (l0.length : Int)) = true := decide_eq_true c4
          clear c4
          by_cases c5 : 0 ≤ x5_1
          · rw [if_pos c5] at H
            have c5b0 : decide (0 ≤ x5_1) = true := decide_eq_true c5
            clear c5
            by_cases c6 : x5_1 < (l1.length : Int)
            · rw [if_pos c6] at H
              have c6b0 : decide (x5_1 < (l1.length : Int)) = true := decide_eq_true c6
              clear c6
              by_cases c7 : (rd l0 x5_1) = (rd l1 x5_1)
              · rw [if_pos c7] at H
                have c7b0 : ((rd l0 x5_1) == (rd l1 x5_1)) = true := beq_iff_eq.mpr c7
                have c7b1 : ((rd l0 x5_1) != (rd l1 x5_1)) = false := bne_eq_false_iff_eq.mpr c7
                clear c7
                have H' := Aside0.mk H
                clear H
                have p428 : 0 ≤ (x5_1 : Int) := of_decide_eq_true (by first | (with_reducible assumption) | assumption)
                have q428 : x5_1 < (l0.length : Int) := of_decide_eq_true (by first | (with_reducible assumption) | assumption)
                obtain ⟨ad428, e428, hx428_0⟩ := Kd.at_int HR0.out x5_1 p428 q428
                cases e428
                replace p428 := eq_true p428
                replace q428 := eq_true q428
                have p429 : 0 ≤ (x5_1 : Int) := of_decide_eq_true (by first | (with_reducible assumption) | assumption)
                have q429 : x5_1 < (l1.length : Int) := of_decide_eq_true (by first | (with_reducible assumption) | assumption)
                obtain ⟨ad429, e429, hx429_0⟩ := Kd.at_int HR1.out x5_1 p429 q429
                cases e429
                replace p429 := eq_true p429
                replace q429 := eq_true q429
                go_wp2
                repeat (go_quiet (fail); try go_wp2)
                go_roundg k1
                case measure => have := HK1.out; omega
                case rel => exact ⟨(wrap64 (x5_1 + 1)), (by first | rfl | (simp; done) | (simp [*]; done)), H', ⟨by have := HK1.out; omega⟩, by repeat (first | exact Drawn0.refl _ | apply Drawn0.step)⟩
              · rw [if_neg c7] at H
                have c7b0 : ((rd l0 x5_1) == (rd l1 x5_1)) = false := beq_eq_false_iff_ne.mpr c7
                have c7b1 : ((rd l0 x5_1) != (rd l1 x5_1)) = true := bne_iff_ne.mpr c7
                obtain rfl := Option.some.inj H
                have p428 : 0 ≤ (x5_1 : Int) := of_decide_eq_true (by first | (with_reducible assumption) | assumption)
                have q428 : x5_1 < (l0.length : Int) := of_decide_eq_true (by first | (with_reducible assumption) | assumption)
                obtain ⟨ad428, e428, hx428_0⟩ := Kd.at_int HR0.out x5_1 p428 q428
                cases e428
                replace p428 := eq_true p428
                replace q428 := eq_true q428
                have p429 : 0 ≤ (x5_1 : Int) := of_decide_eq_true (by first | (with_reducible assumption) | assumption)
                have q429 : x5_1 < (l1.length : Int) := of_decide_eq_true (by first | (with_reducible assumption) | assumption)
                obtain ⟨ad429, e429, hx429_0⟩ := Kd.at_int HR1.out x5_1 p429 q429
                cases e429
                replace p429 := eq_true p429
                replace q429 := eq_true q429
                go_wp2
                repeat (go_quiet (fail); try go_wp2)
                go_ret
                exact ⟨by first | rfl | (simp; done) | (simp [*]; done), by repeat (first | exact Drawn0.refl _ | apply Drawn0.step)⟩
            · rw [if_neg c6] at H
              exact absurd H (by simp)
          · rw [if_neg c5] at H
            exact absurd H (by simp)
        · rw [if_neg c4] at H
          have c4b0 : decide (x5_1 < (l0.length : Int)) = false := decide_eq_false c4
          clear c4
          obtain rfl := Option.some.inj H
          go_wp2
          repeat (go_quiet (fail); try go_wp2)
          go_ret
          exact ⟨by first | rfl | (simp; done) | (simp [*]; done), by repeat (first | exact Drawn0.refl _ | apply Drawn0.step)⟩
  · rw [if_neg c3] at H
    have c3b0 : ((l0.length : Int) == (l1.length : Int)) = false := beq_eq_false_iff_ne.mpr c3
    have c3b1 : ((l0.length : Int) != (l1.length : Int)) = true := bne_iff_ne.mpr c3
    have c3b2 : (l0.length == l1.length) = false := by first | simpa using c3 | (simp at c3 ⊢; omega)
    obtain rfl := Option.some.inj H
    go_enter Try.func46, Try.ntmps46
    go_wp2
    repeat (go_quiet (fail); try go_wp2)
    go_ret
    exact ⟨by first | rfl | (simp; done) | (simp [*]; done), by repeat (first | exact Drawn0.refl _ | apply Drawn0.step)⟩
end Go.Proofs.Ytnpceipoakclbaa.Q

namespace Go.Proofs.Ytnpceipoakclbaa.Q
open Go.RowKit Go.Shelf Go.Proofs.YtnpceipoakclbaaW.PrintWords Go.Proofs.YtnpceipoakclbaaW.PrintLast Go.Proofs.YtnpceipoakclbaaW.PrintMore
set_option linter.unusedVariables false
set_option linter.unusedSimpArgs false
attribute [local go_sem] Oper.semAt_some max2_m min2_m max_two min_two
def instP (local_ : Int) (p : Pt) : List Int := if p.a ≤ local_ - p.o ∧ local_ - p.o ≤ p.b - 1 then [local_ - p.o] else []
def instL (local_ : Int) (xs : List Pt) : List Int := xs.flatMap (instP local_)
theorem instL_len (c : Int) : ∀ xs : List Pt, (instL c xs).length ≤ xs.length := by
  intro xs
  induction xs with
  | nil => simp [instL]
  | cons x xs ih =>
    have h : instL c (x :: xs) = instP c x ++ instL c xs := rfl
    rw [h, List.length_append]
    have : (instP c x).length ≤ 1 := by unfold instP; split <;> simp
    simp only [List.length_cons]
    omega
theorem instL_hit {c : Int} {pre : List Pt} {x : Pt} (h : x.a ≤ c - x.o ∧ c - x.o ≤ x.b - 1) : instL c (pre ++ [x]) = instL c pre ++ [c - x.o] := by
  unfold instL
  rw [List.flatMap_append]
  simp [instP, h]
theorem instL_miss {c : Int} {pre : List Pt} {x : Pt} (h : ¬ (x.a ≤ c - x.o ∧ c - x.o ≤ x.b - 1)) : instL c (pre ++ [x]) = instL c pre := by
  unfold instL
  rw [List.flatMap_append]
  simp only [List.flatMap_cons, List.flatMap_nil, List.append_nil, instP]
  rw [if_neg h, List.append_nil]
def zone_Instants.f (a0_0 : ByteArray) (a0_1 : Int) (l0_2 : List (S75)) (a1 : Int) (a2 : Int) : Option (List Int) :=
  some (if 0 ≤ a1 ∧ a1 ≤ 36524 ∧ 0 ≤ a2 ∧ a2 ≤ 1439 ∧ zvalid a0_1 l0_2 = true then instL (a1 * 1440 + a2) (psteps (min 52595999 (a1 * 1440 + a2 + 840) + 1) l0_2 (max 0 (a1 * 1440 + a2 - 840)) a0_1) else [])
theorem int_flat : Flat (Kd.int .i64) (fun x : Int => [Value.int .i64 x]) where
  m := ⟨fun h => h, fun h => h⟩
  len _ := rfl
  one x v hv := by
    simp only [List.mem_singleton] at hv
    subst hv
    rfl
theorem row_R {w : World} {base base' : Nat} {v : Value} {xs : List Int} (h : w.ownsRow base' 3 1 v xs.length (xs.map (Value.int .i64))) (hb : base ≤ base') : Kd.R (Kd.int .i64) 3 w base (fun _ => True) v xs := by
  refine (R_flat int_flat).2 ⟨fun _ _ => trivial, ?_⟩
  have h2 := own_weaken h hb
  rwa [List.map_eq_flatMap] at h2
set_option maxRecDepth 100000 in
set_option maxHeartbeats 8000000 in
theorem zone_Instants.calls (a0_0 : ByteArray) (a0_1 : Int) (A0_2 : Option Addr) (c0_2 : Nat) (l0_2 : List (S75)) (a1 : Int) (a2 : Int) (r : List Int) (w : World) (hr0_2 : Kd.C k75 w A0_2 l0_2.length l0_2) (hc0_2 : l0_2.length ≤ c0_2) (h : zone_Instants.f a0_0 a0_1 l0_2 a1 a2 = some r) :
    Calls Try.prog 47 #[.agg #[.string a0_0, .int .i64 a0_1, .slice A0_2 l0_2.length c0_2], .int .i64 a1, .int .i64 a2] w fun e w' => ∃ v0_ : Value, e = .returned (v0_) ∧ Kd.R (Kd.int .i64) 3 w' w.heap.size (fun _ => True) v0_ r ∧ Below w.heap.size w w' := by
  unfold zone_Instants.f at h
  have h := Option.some.inj h
  have HC := Lib.hid hr0_2
  have HL := Lib.hid hc0_2
  clear hr0_2 hc0_2
  by_cases h1 : 0 ≤ a1 ∧ a1 ≤ 36524
  · by_cases h2 : 0 ≤ a2 ∧ a2 ≤ 1439
    · obtain ⟨b1, b2⟩ := h1
      obtain ⟨b3, b4⟩ := h2
      cases hv : zvalid a0_1 l0_2 with
      | true =>
        rw [if_pos ⟨b1, b2, b3, b4, hv⟩] at h
        have HR := Lib.hid h
        have HV := Lib.hid hv
        clear h hv
        refine (callsIn_wide (n := 3)).1 ?_
        refine callsIn_of_wp_marks Try.func47 rfl trivial ?_ rfl
        simp only [Try.ntmps47, List.size_toArray, List.length_cons, List.length_nil, Nat.reduceAdd, Nat.reduceSub, Array.replicate_succ, Array.replicate_zero, List.push_toArray, List.append_toArray, List.nil_append, List.cons_append]
        gi_wp2_with fail
        refine ⟨trivial, (callsIn_wide.2 (between_t _ _ _ _ ⟨b1, b2⟩)).mono ?_⟩
        rintro e w' ⟨rfl, nd, rfl⟩
        gi_wp2_with fail
        refine ⟨trivial, (callsIn_wide.2 (between_t _ _ _ _ ⟨b3, b4⟩)).mono ?_⟩
        rintro e w' ⟨rfl, nd2, rfl⟩
        gi_wp2_with fail
        refine ⟨trivial, (callsIn_wide.2 (valid_c a0_0 a0_1 _ _ l0_2 _ true HV.out (Kd.C_drewN (Kd.C_alloc HC.out _) _) HL.out)).mono ?_⟩
        rintro e V ⟨rfl, hb⟩
        have hz := blk_below (blk_drewN (World.alloc_heap_new w (.cells #[.string a0_0, .int .i64 a0_1, .slice A0_2 l0_2.length c0_2] 24)) (nd + nd2)) hb
        have hBV := below_step (pw_below_drewN (below_alloc (Below.refl w.heap.size w) (.cells #[.string a0_0, .int .i64 a0_1, .slice A0_2 l0_2.length c0_2] 24)) (nd + nd2)) hb
        have hsV : w.heap.size + 1 ≤ V.heap.size := by have := hb.size; simpa using this
        have z0 := blk_cell hz 0
        have z1 := blk_cell hz 1
        have z2 := blk_cell hz 2
        simp only [List.getElem?_toArray, List.getElem?_cons_zero, List.getElem?_cons_succ] at z0 z1 z2
        clear hb hz
        have HBV := Lib.hid hBV
        clear hBV
        obtain ⟨V3, hV3⟩ : ∃ V3, V3 = (V.alloc (.cells #[.slice none 0 0] 66)).alloc (.cells #[.int .i64 (a1 * 1440 + a2)] 3) := ⟨_, rfl⟩
        have hb3 : Below V.heap.size V V3 := hV3 ▸ below_alloc (below_alloc (Below.refl _ _) _) _
        have z0 := pw_cell_below hb3 z0
        have z1 := pw_cell_below hb3 z1
        have z2 := pw_cell_below hb3 z2
        have q0 : Boxed V3 V.heap.size 66 (.slice none 0 0) := hV3 ▸ blk_alloc (World.alloc_heap_new _ _) _
        have q1 : Boxed V3 (V.heap.size + 1) 3 (.int .i64 (a1 * 1440 + a2)) := hV3 ▸ (by have := World.alloc_heap_new (V.alloc (.cells #[.slice none 0 0] 66)) (.cells #[.int .i64 (a1 * 1440 + a2)] 3); rwa [World.size_alloc] at this)
        have hs3 : V3.heap.size = V.heap.size + 2 := by rw [hV3]; simp
        have hB3 := below_step HBV.out hb3
        have HV3 := Lib.hid hV3
        have HQ := Lib.hid (And.intro q0 (And.intro q1 hB3))
        have HS3 := Lib.hid hs3
        rw [hV3] at z0 z1 z2
        clear hV3 hb3 q0 q1 hB3 hs3
        gi_wp2_with fail
        rw [← HV3.out]
        clear z0 z1 z2
        generalize hcl : a1 * 1440 + a2 = cl at *
        have hclb : 0 ≤ cl ∧ cl ≤ 52596000 := ⟨by omega, by omega⟩
        generalize hfr : max 0 (cl - 840) = fr
        generalize htt : min 52595999 (cl + 840) + 1 = tt
        have hfb : 0 ≤ fr ∧ tt ≤ 52596000 := ⟨by omega, by omega⟩
        have HRR := HR.out
        rw [hfr, htt] at HRR
        have HR2 := Lib.hid HRR
        clear hfr htt HRR HR hcl
        refine ⟨trivial, (callsIn_wide.2 (parts_calls _ _ _ _ _ _ _ _)).mono ?_⟩
        rintro e w' ⟨rfl, rfl⟩
        have HOK := Lib.hid (psteps_all (tt := tt) (fr := fr) HV.out)
        gi_wp2_with fail
        refine zone_loopE (ty := 3) (by decide) (V := V3) HC.out HL.out HQ.out.2.2 rfl rfl (fun k => k = V.heap.size) (fun k h => ⟨by have := HBV.out.size; omega, by have := HS3.out; omega⟩)
          (fun (pre : List Pt) W => (∃ v, Boxed W V.heap.size 66 v ∧ W.ownsRow (V3.heap.size + 5) 3 1 v (instL cl pre).length ((instL cl pre).map (Value.int .i64))) ∧ Boxed W (V.heap.size + 1) 3 (.int .i64 cl))
          (fun pre W W' hi hk => ⟨by obtain ⟨v, h1, h2⟩ := hi.1; exact ⟨v, hk.boxed (by have := HS3.out; omega) h1, own_KB h2 hk (fun k h => by omega)⟩, hk.boxed (by have := HS3.out; omega) hi.2⟩) ⟨⟨_, HQ.out.1, World.ownsRow_nil _ _ _ _⟩, HQ.out.2.1⟩ ?round ?done
        case round =>
          intro ln pre x rest W hx hln hlt hi
          have hpl : pre.length ≤ 65 := by have := HOK.out.1; rw [← hx] at this; simp at this; omega
          obtain ⟨x1, x2, x3, x4, x5⟩ := HOK.out.2 x (by rw [← hx]; simp)
          have hWs : V3.heap.size + 4 < W.heap.size ∧ V.heap.size + 7 ≤ W.heap.size := ⟨by omega, by have := HS3.out; omega⟩
          obtain ⟨⟨v, hv, hrow⟩, hcb⟩ := hi
          have HI := Lib.hid (And.intro hv (And.intro hrow hcb))
          have hlnW : V.heap.size + 6 ≤ ln ∧ ln < W.heap.size ∧ ln ≤ V3.heap.size + 4 := ⟨by have := HS3.out; omega, hlt, by omega⟩
          clear hv hrow hcb hx hln hlt
          gi_wp2
          refine ⟨(KB.refl _ _).alloc _, fun W2 hs2 hk2 => ?_⟩
          have hpb := hk2.get (by show ¬ _ = _; omega) (World.alloc_heap_new W (.cells #[.int .i64 x.a, .int .i64 x.b, .int .i64 x.o] 95))
          have hv := hk2.boxed (by show ¬ _ = _; omega) (HI.out.1.alloc (.cells #[.int .i64 x.a, .int .i64 x.b, .int .i64 x.o] 95))
          have hcb := hk2.boxed (by show ¬ _ = _; omega) (HI.out.2.2.alloc (.cells #[.int .i64 x.a, .int .i64 x.b, .int .i64 x.o] 95))
          have hrow : W2.ownsRow (V3.heap.size + 5) 3 1 v (instL cl pre).length ((instL cl pre).map (Value.int .i64)) := own_KB (pw_own_below HI.out.2.1 (below_alloc (Below.refl _ _) _)) hk2 (fun k h => by have := HS3.out; have : k = ln := h; omega)
          have hsz : W2.heap.size = W.heap.size + 1 := by rw [hs2]; simp
          have hszl : V3.heap.size + 5 ≤ W2.heap.size := by omega
          have p0 := blk_cell hpb 0
          have p1 := blk_cell hpb 1
          have p2 := blk_cell hpb 2
          simp only [List.getElem?_toArray, List.getElem?_cons_zero, List.getElem?_cons_succ] at p0 p1 p2
          have cv := hv.cell
          have cc := hcb.cell
          have HV2 := Lib.hid (And.intro hv (And.intro hrow hcb))
          clear hs2 hk2 hpb hv hcb hrow hsz
          have hil := instL_len cl pre
          by_cases hin : x.a ≤ cl - x.o ∧ cl - x.o ≤ x.b - 1
          · gi_wp2_with fail
            refine ⟨trivial, CallsIn.inRound ln ((callsIn_wide.2 (between_t _ _ _ _ hin)).mono ?_)⟩
            rintro e w' ⟨rfl, nd3, rfl⟩
            have cv2 : (W2.drewN nd3).cell? ⟨V.heap.size, 0, none⟩ = some v := cv
            obtain ⟨i0, hi, hz0, hz1, hz2⟩ := info_parts info3
            have HII := Lib.hid (And.intro hi (And.intro hz0 (And.intro hz1 hz2)))
            clear hi hz0 hz1 hz2 cv
            have HB5 := Lib.hid hszl
            have HIL := Lib.hid hil
            have hkA := fun (w1 : World) (v' : Value) (hg : ((W2.drewN nd3).alloc (.cells #[.int .i64 (cl - x.o)] 3)).grownBy w1 v.ownBlock) => KB.of_append (Mine := NoB) (L := V3.heap.size + 5) (pw_own_drewN HV2.out.2.1 nd3) (Nat.le_refl _) hg
            have HKA := Lib.hid hkA
            clear hkA
            gi_wp2_with (gi_at_builtin; refine wpListIn_append_own _ rfl _ _ 66 rfl (V3.heap.size + 5) 3 i0 (.int .i64 0) 1 8 Try.underlying66 HII.out.1 HII.out.2.1 HII.out.2.2.1 HII.out.2.2.2 rfl (by decide) _ _ _ rfl ((pw_own_drewN HV2.out.2.1 nd3).alloc _) ⟨W2.heap.size, 0, none⟩ 1 1 [.int .i64 (cl - x.o)] rfl rfl (cell_one_new _ _ _) (by simp [Value.oneCell']) (by have := HIL.out; unfold maxLen; omega) (by have := HIL.out; omega) (by have := HB5.out; simp; omega) ?_; intro v' w1 hown' hgrow _; obtain ⟨g', cap', rfl⟩ := ownsRow_succ hown'; have hkg := HKA.out w1 v hgrow; have hv1 := hkg.boxed (fun h => by rcases h with h | h; exact h; have := h.1; have := HS3.out; omega) (show Boxed (W2.drewN nd3) V.heap.size 66 v from HV2.out.1); have HW1 := Lib.hid (And.intro hown' (And.intro hkg hv1)); have hc1 := hv1.cell; have hf1 := hv1.frozen; clear hown' hgrow hkg hv1)
            have k2 : KB (MineE (fun k => k = V.heap.size) (V3.heap.size + 5) 3 W2) W2 w1 := HW1.out.2.1.of_drewN.mono (fun i h _ => by rcases h with h | h; exact h.elim; exact .inr h)
            refine ⟨k2.trans' (KB.set1 w1 V.heap.size _) (fun i h _ => .inl h), ⟨_, HW1.out.2.2.set _, ?_⟩, (KB.set1 w1 V.heap.size _).boxed (by show ¬ _ = _; omega) (HW1.out.2.1.of_drewN.boxed (fun h => by rcases h with h | h; exact h; have := h.1; have := HS3.out; omega) HV2.out.2.2)⟩
            rw [instL_hit hin, List.length_append, List.map_append]
            exact own_KB HW1.out.1 (KB.set1 w1 V.heap.size _) (fun k h => by have : k = V.heap.size := h; have := HS3.out; omega)
          · gi_wp2_with fail
            refine ⟨trivial, CallsIn.inRound ln ((callsIn_wide.2 (between_n _ _ _ _ hin)).mono ?_)⟩
            rintro e w' ⟨rfl, nd3, rfl⟩
            clear cv
            gi_wp2
            refine ⟨(KB.refl _ _).drewN _, ⟨v, HV2.out.1, ?_⟩, HV2.out.2.2⟩
            rw [instL_miss hin]
            exact pw_own_drewN HV2.out.2.1 nd3
        case done =>
          intro W hk hlt hi hd
          obtain ⟨⟨v, hv, hrow⟩, hcb⟩ := hi
          have cv := hv.cell
          have HH := Lib.hid (And.intro hk (And.intro hrow hd))
          clear hk hlt hd hcb hv hrow
          gi_wp2
          refine ⟨by simp, .inl ⟨_, _, rfl, run_takeDeferred HH.out.2.2, ?_⟩⟩
          refine ⟨_, results_tmp rfl _ _ _, v, by simp, ?_, ?_⟩
          · rw [← HR2.out]
            refine row_R (base' := V3.heap.size + 5) (own_KB HH.out.2.1 (KB.put1 W (V3.heap.size + 3) _) (fun k h => by omega)) ?_
            have := HBV.out.size
            have := HS3.out
            omega
          · refine HQ.out.2.2.trans ?_
            exact KB.below (S := fun k => k = V.heap.size) (HH.out.1.putObj (.inr (by omega)) _) HQ.out.2.2.size (fun k h => by have := HBV.out.size; omega)
      | false =>
        rw [if_neg (fun h => by have := h.2.2.2.2; rw [hv] at this; cases this)] at h
        have HV := Lib.hid hv
        clear hv
        subst h
        go_enter Try.func47, Try.ntmps47
        go_wp2_with fail
        refine (between_t _ _ _ _ ⟨b1, b2⟩).mono ?_
        rintro e w' ⟨rfl, nd, rfl⟩
        go_wp2_with fail
        refine (between_t _ _ _ _ ⟨b3, b4⟩).mono ?_
        rintro e w' ⟨rfl, nd2, rfl⟩
        go_wp2_with fail
        refine (valid_c a0_0 a0_1 _ _ l0_2 _ false HV.out (Kd.C_drewN (Kd.C_alloc HC.out _) _) HL.out).mono ?_
        rintro e V ⟨rfl, hb⟩
        have HB := Lib.hid (below_step (pw_below_drewN (below_alloc (Below.refl w.heap.size w) (.cells #[.string a0_0, .int .i64 a0_1, .slice A0_2 l0_2.length c0_2] 24)) (nd + nd2)) hb)
        clear hb
        go_wp2
        go_ret
        exact ⟨_, rfl, Kd.R_nil _ _ _ _ _, HB.out⟩
    · rw [if_neg (fun h => h2 ⟨h.2.2.1, h.2.2.2.1⟩)] at h
      subst h
      obtain ⟨b1, b2⟩ := h1
      have H2 := Lib.hid h2
      clear h2
      go_enter Try.func47, Try.ntmps47
      go_wp2_with fail
      refine (between_t _ _ _ _ ⟨b1, b2⟩).mono ?_
      rintro e w' ⟨rfl, nd, rfl⟩
      go_wp2_with fail
      refine (between_n _ _ _ _ H2.out).mono ?_
      rintro e w' ⟨rfl, nd2, rfl⟩
      go_wp2
      go_ret
      exact ⟨_, rfl, Kd.R_nil _ _ _ _ _, pw_below_drewN (below_alloc (Below.refl _ _) _) _⟩
  · rw [if_neg (fun h => h1 ⟨h.1, h.2.1⟩)] at h
    subst h
    have H1 := Lib.hid h1
    clear h1
    go_enter Try.func47, Try.ntmps47
    go_wp2_with fail
    refine (between_n _ _ _ _ H1.out).mono ?_
    rintro e w' ⟨rfl, nd, rfl⟩
    go_wp2
    go_ret
    exact ⟨_, rfl, Kd.R_nil _ _ _ _ _, pw_below_drewN (below_alloc (Below.refl _ _) _) _⟩
end Go.Proofs.Ytnpceipoakclbaa.Q

namespace Go.Proofs.Ytnpceipoakclbaa.Q
open Go.RowKit Go.Proofs.YtnpceipoakclbaaW.PrintWords Go.Proofs.YtnpceipoakclbaaW.PrintLast Go.Proofs.YtnpceipoakclbaaW.PrintMore
attribute [local go_sem] max2_int min2_int max_two min_two max_three min_three max_four min_four   -- for this text's walks alone
set_option linter.unusedVariables false
set_option linter.unusedSimpArgs false
mutual
def wageofficelaw03_head.j0 : Nat → Bool → ByteArray → Int → List (S75) → Option (Bool)
  | 0, _, _, _, _ => none
  | k + 1, x8, x436000, x436001, x436002 => if x8 = true then ((zone_Instants.f x436000 x436001 x436002 3 750).bind fun t444 => (if (t444.length : Int) = 0 then ((zone_Instants.f x436000 x436001 x436002 13 1370).bind fun t447 => ((wageofficeref03_Ints.f k t447 (([19970, 20030] : List Int))).bind fun t453 => (if t453 = true then ((zone_Length.f x436000 x436001 x436002 3).bind fun t454 => (if t454 = 1380 then ((zone_Length.f x436000 x436001 x436002 13).bind fun t455 => (if t455 = 1500 then ((zone_Length.f x436000 x436001 x436002 14).bind fun t456 => (wageofficelaw03_head.j1 k (t456 == 1440) x436000 x436001 x436002)) else (wageofficelaw03_head.j1 k false x436000 x436001 x436002))) else (wageofficelaw03_head.j1 k false x436000 x436001 x436002))) else (wageofficelaw03_head.j1 k false x436000 x436001 x436002)))) else (wageofficelaw03_head.j1 k false x436000 x436001 x436002))) else (wageofficelaw03_head.j1 k false x436000 x436001 x436002)
def wageofficelaw03_head.j1 : Nat → Bool → ByteArray → Int → List (S75) → Option (Bool)
  | 0, _, _, _, _ => none
  | k + 1, x8, x436000, x436001, x436002 => (zone_Split.f x436000 x436001 x436002 4200 5800).bind fun bt457 => ((zone_Window.f x436000 x436001 x436002 4200 5800 1380 360).bind fun bt461 => ((zone_Local.f k x436000 x436001 x436002 (-1)).bind fun bt463 => (if x8 = true then (if bt457.2 = 0 then ((wageofficeref03_Same.f k bt457.1 (([(⟨2, 60⟩ : S46), (⟨3, 1380⟩ : S46), (⟨4, 160⟩ : S46)] : List (S46)))).bind fun t469 => (if t469 = true then (if bt461.2 = 0 then (if bt461.1 = 640 then (some (bt463.2.2 == 1)) else (none)) else (none)) else (none))) else (none)) else (none))))
end
def wageofficelaw03_head.f (k : Nat)  : Option (Bool) := (wageofficelaw03_example.f).bind fun bt430 => ((zone_Local.f k bt430.1 bt430.2.1 bt430.2.2 4999).bind fun bt436 => ((zone_Local.f k bt430.1 bt430.2.1 bt430.2.2 5000).bind fun bt439 => ((zone_Valid.f k bt430.1 bt430.2.1 bt430.2.2).bind fun t442 => (if t442 = true then (if bt436.2.2 = 0 then (if bt439.2.2 = 0 then (if bt436.1 = 3 then (if bt436.2.1 = 739 then (if bt439.1 = 3 then (if bt439.2.1 = 800 then ((zone_Offset.f k bt430.1 bt430.2.1 bt430.2.2 (-5)).bind fun t443 => (wageofficelaw03_head.j0 k (t443 == 60) bt430.1 bt430.2.1 bt430.2.2)) else (wageofficelaw03_head.j0 k false bt430.1 bt430.2.1 bt430.2.2)) else (wageofficelaw03_head.j0 k false bt430.1 bt430.2.1 bt430.2.2)) else (wageofficelaw03_head.j0 k false bt430.1 bt430.2.1 bt430.2.2)) else (wageofficelaw03_head.j0 k false bt430.1 bt430.2.1 bt430.2.2)) else (wageofficelaw03_head.j0 k false bt430.1 bt430.2.1 bt430.2.2)) else (wageofficelaw03_head.j0 k false bt430.1 bt430.2.1 bt430.2.2)) else (wageofficelaw03_head.j0 k false bt430.1 bt430.2.1 bt430.2.2)))))
theorem wageofficelaw03_head.mono_l : ∀ k, (∀ y0 y1 y2 y3, LeO (wageofficelaw03_head.j0 k y0 y1 y2 y3) (wageofficelaw03_head.j0 (k + 1) y0 y1 y2 y3)) ∧ (∀ y0 y1 y2 y3, LeO (wageofficelaw03_head.j1 k y0 y1 y2 y3) (wageofficelaw03_head.j1 (k + 1) y0 y1 y2 y3))
  | 0 => ⟨fun _ _ _ _ r h => by simp [wageofficelaw03_head.j0] at h, fun _ _ _ _ r h => by simp [wageofficelaw03_head.j1] at h⟩
  | k + 1 => by
    obtain ⟨ih0, ih1⟩ := wageofficelaw03_head.mono_l k
    refine ⟨?_, ?_⟩
    · intro y0 y1 y2 y3
      unfold wageofficelaw03_head.j0
      repeat' first
      | (with_reducible exact ih0 _ _ _ _)
      | (with_reducible exact ih1 _ _ _ _)
      | (with_reducible exact wageofficeref03_Ints.mono _ _ _)
      | (with_reducible exact wageofficeref03_Same.mono _ _ _)
      | (with_reducible exact zone_Local.mono _ _ _ _ _)
      | (with_reducible exact zone_Offset.mono _ _ _ _ _)
      | (with_reducible exact zone_Valid.mono _ _ _ _)
      | (with_reducible exact LeO.refl _)
      | (with_reducible exact LeO.none _)
      | (with_reducible refine LeO.ite ?_ ?_)
      | (with_reducible refine LeO.bind ?_ (fun _ => ?_))
      | exact ih0 _ _ _ _
      | exact ih1 _ _ _ _
      | exact wageofficeref03_Ints.mono _ _ _
      | exact wageofficeref03_Same.mono _ _ _
      | exact zone_Local.mono _ _ _ _ _
      | exact zone_Offset.mono _ _ _ _ _
      | exact zone_Valid.mono _ _ _ _
      | exact LeO.none _
      | refine LeO.ite ?_ ?_
      | refine LeO.bind ?_ (fun _ => ?_)
    · intro y0 y1 y2 y3
      unfold wageofficelaw03_head.j1
      repeat' first
      | (with_reducible exact ih0 _ _ _ _)
      | (with_reducible exact ih1 _ _ _ _)
      | (with_reducible exact wageofficeref03_Ints.mono _ _ _)
      | (with_reducible exact wageofficeref03_Same.mono _ _ _)
      | (with_reducible exact zone_Local.mono _ _ _ _ _)
      | (with_reducible exact zone_Offset.mono _ _ _ _ _)
      | (with_reducible exact zone_Valid.mono _ _ _ _)
      | (with_reducible exact LeO.refl _)
      | (with_reducible exact LeO.none _)
      | (with_reducible refine LeO.ite ?_ ?_)
      | (with_reducible refine LeO.bind ?_ (fun _ => ?_))
      | exact ih0 _ _ _ _
      | exact ih1 _ _ _ _
      | exact wageofficeref03_Ints.mono _ _ _
      | exact wageofficeref03_Same.mono _ _ _
      | exact zone_Local.mono _ _ _ _ _
      | exact zone_Offset.mono _ _ _ _ _
      | exact zone_Valid.mono _ _ _ _
      | exact LeO.none _
      | refine LeO.ite ?_ ?_
      | refine LeO.bind ?_ (fun _ => ?_)
theorem wageofficelaw03_head.mono : ∀ k, LeO (wageofficelaw03_head.f k ) (wageofficelaw03_head.f (k + 1) ) := by
  intro  k
  obtain ⟨ih0, ih1⟩ := wageofficelaw03_head.mono_l k
  unfold wageofficelaw03_head.f
  repeat' first
      | (with_reducible exact ih0 _ _ _ _)
      | (with_reducible exact ih1 _ _ _ _)
      | (with_reducible exact wageofficeref03_Ints.mono _ _ _)
      | (with_reducible exact wageofficeref03_Same.mono _ _ _)
      | (with_reducible exact zone_Local.mono _ _ _ _ _)
      | (with_reducible exact zone_Offset.mono _ _ _ _ _)
      | (with_reducible exact zone_Valid.mono _ _ _ _)
      | (with_reducible exact LeO.refl _)
      | (with_reducible exact LeO.none _)
      | (with_reducible refine LeO.ite ?_ ?_)
      | (with_reducible refine LeO.bind ?_ (fun _ => ?_))
      | exact ih0 _ _ _ _
      | exact ih1 _ _ _ _
      | exact wageofficeref03_Ints.mono _ _ _
      | exact wageofficeref03_Same.mono _ _ _
      | exact zone_Local.mono _ _ _ _ _
      | exact zone_Offset.mono _ _ _ _ _
      | exact zone_Valid.mono _ _ _ _
      | exact LeO.none _
      | refine LeO.ite ?_ ?_
      | refine LeO.bind ?_ (fun _ => ?_)
set_option maxHeartbeats 8000000 in
set_option maxRecDepth 100000 in
theorem wageofficelaw03_head.calls (k : Nat)  (r : Bool) (w : World) (h : wageofficelaw03_head.f k  = some r) :
    Calls Try.prog 33 #[] w fun e w' => e = .returned (.bool r) ∧ Below w.heap.size w w' := by
  have hu24 := Try.underlying24
  have hu28 := Try.underlying28
  have hu46 := Try.underlying46
  have HB := Aside0.mk (Below.refl w.heap.size w)
  have H : ((wageofficelaw03_example.f).bind fun bt430 => ((zone_Local.f k bt430.1 bt430.2.1 bt430.2.2 4999).bind fun bt436 => ((zone_Local.f k bt430.1 bt430.2.1 bt430.2.2 5000).bind fun bt439 => ((zone_Valid.f k bt430.1 bt430.2.1 bt430.2.2).bind fun t442 => (if t442 = true then (if bt436.2.2 = 0 then (if bt439.2.2 = 0 then (if bt436.1 = 3 then (if bt436.2.1 = 739 then (if bt439.1 = 3 then (if bt439.2.1 = 800 then ((zone_Offset.f k bt430.1 bt430.2.1 bt430.2.2 (-5)).bind fun t443 => (wageofficelaw03_head.j0 k (t443 == 60) bt430.1 bt430.2.1 bt430.2.2)) else (wageofficelaw03_head.j0 k false bt430.1 bt430.2.1 bt430.2.2)) else (wageofficelaw03_head.j0 k false bt430.1 bt430.2.1 bt430.2.2)) else (wageofficelaw03_head.j0 k false bt430.1 bt430.2.1 bt430.2.2)) else (wageofficelaw03_head.j0 k false bt430.1 bt430.2.1 bt430.2.2)) else (wageofficelaw03_head.j0 k false bt430.1 bt430.2.1 bt430.2.2)) else (wageofficelaw03_head.j0 k false bt430.1 bt430.2.1 bt430.2.2)) else (wageofficelaw03_head.j0 k false bt430.1 bt430.2.1 bt430.2.2)))))) = some r := h
  clear h
  replace H := Option.bind_eq_some_iff.mp H
  obtain ⟨⟨t430, t431, t432⟩, A10, H⟩ := H
  replace H : ((zone_Local.f k t430 t431 t432 4999).bind fun bt436 => ((zone_Local.f k t430 t431 t432 5000).bind fun bt439 => ((zone_Valid.f k t430 t431 t432).bind fun t442 => (if t442 = true then (if bt436.2.2 = 0 then (if bt439.2.2 = 0 then (if bt436.1 = 3 then (if bt436.2.1 = 739 then (if bt439.1 = 3 then (if bt439.2.1 = 800 then ((zone_Offset.f k t430 t431 t432 (-5)).bind fun t443 => (wageofficelaw03_head.j0 k (t443 == 60) t430 t431 t432)) else (wageofficelaw03_head.j0 k false t430 t431 t432)) else (wageofficelaw03_head.j0 k false t430 t431 t432)) else (wageofficelaw03_head.j0 k false t430 t431 t432)) else (wageofficelaw03_head.j0 k false t430 t431 t432)) else (wageofficelaw03_head.j0 k false t430 t431 t432)) else (wageofficelaw03_head.j0 k false t430 t431 t432)) else (wageofficelaw03_head.j0 k false t430 t431 t432))))) = some r := H
  have A1 := Aside0.mk A10
  clear A10
  replace H := Option.bind_eq_some_iff.mp H
  obtain ⟨⟨t436, t437, t438⟩, A20, H⟩ := H
  replace H : ((zone_Local.f k t430 t431 t432 5000).bind fun bt439 => ((zone_Valid.f k t430 t431 t432).bind fun t442 => (if t442 = true then (if t438 = 0 then (if bt439.2.2 = 0 then (if t436 = 3 then (if t437 = 739 then (if bt439.1 = 3 then (if bt439.2.1 = 800 then ((zone_Offset.f k t430 t431 t432 (-5)).bind fun t443 => (wageofficelaw03_head.j0 k (t443 == 60) t430 t431 t432)) else (wageofficelaw03_head.j0 k false t430 t431 t432)) else (wageofficelaw03_head.j0 k false t430 t431 t432)) else (wageofficelaw03_head.j0 k false t430 t431 t432)) else (wageofficelaw03_head.j0 k false t430 t431 t432)) else (wageofficelaw03_head.j0 k false t430 t431 t432)) else (wageofficelaw03_head.j0 k false t430 t431 t432)) else (wageofficelaw03_head.j0 k false t430 t431 t432)))) = some r := H
  have A2 := Aside0.mk A20
  clear A20
  replace H := Option.bind_eq_some_iff.mp H
  obtain ⟨⟨t439, t440, t441⟩, A30, H⟩ := H
  replace H : ((zone_Valid.f k t430 t431 t432).bind fun t442 => (if t442 = true then (if t438 = 0 then (if t441 = 0 then (if t436 = 3 then (if t437 = 739 then (if t439 = 3 then (if t440 = 800 then ((zone_Offset.f k t430 t431 t432 (-5)).bind fun t443 => (wageofficelaw03_head.j0 k (t443 == 60) t430 t431 t432)) else (wageofficelaw03_head.j0 k false t430 t431 t432)) else (wageofficelaw03_head.j0 k false t430 t431 t432)) else (wageofficelaw03_head.j0 k false t430 t431 t432)) else (wageofficelaw03_head.j0 k false t430 t431 t432)) else (wageofficelaw03_head.j0 k false t430 t431 t432)) else (wageofficelaw03_head.j0 k false t430 t431 t432)) else (wageofficelaw03_head.j0 k false t430 t431 t432))) = some r := H
  have A3 := Aside0.mk A30
  clear A30
  have HC4 := Aside0.mk H
  clear H
  go_enter Try.func33, Try.ntmps33
  go_upto_region 4 with (first | ((with_reducible refine gate_callee (f := 58) rfl ?_); refine goesL_ (some 16) rfl rfl Try.func58 (by kernel_rfl) rfl #[] rfl (by (try simp only [List.map_toArray, List.map_cons, List.map_nil]); first | done | rfl | (simp only [List.length_drop, List.length_take]; rfl)) ?_; (with_reducible refine (wageofficelaw03_example.calls  t430 t431 t432 _ A1.out).mono ?_); rintro e w5 ⟨v433, rfl, ho0, hb⟩; refine ⟨_, rfl, ?_⟩; have n0_ := Aside0.mk (Kd.R_lower ho0 (below_size (by repeat (first | (with_reducible first | exact HB.out | apply below_alloc | apply pw_below_drewN | apply below_drew1) | exact HB.out)))); have n1_ := Aside0.mk (below_step (by repeat (first | (with_reducible first | exact HB.out | apply below_alloc | apply pw_below_drewN | apply below_drew1) | exact HB.out)) hb); clear HB; have HO434 := n0_; have HB := n1_; clear n0_ n1_; (try clear hb); (try clear hb2); (try clear hk); (try clear hi); (try clear ho0)) | ((with_reducible refine gate_dst (N := 1) rfl ?_); (try (refine gate_guard (by rfl) ?_; dsimp only)); refine box_event ?hg (N := 1) ?hd (cs := #[.string (⟨#[]⟩ : ByteArray), .int .i64 0, .slice none 0 0]) (t := 24) ?hr ?_; (case hd => rfl); (case hg => rfl); (case hr => first | (go_simp; done) | (go_simp; rfl)); intro gb435 hg w6 hbox hb; have n0_ := Aside0.mk (Kd.R_below (by (with_reducible repeat (first | apply Kd.R_alloc | apply Kd.R_drewN | apply Kd.R_drew)); exact HO434.out) hb); have n1_ := Aside0.mk (below_step (by repeat (first | (with_reducible first | exact HB.out | apply below_alloc | apply pw_below_drewN | apply below_drew1) | exact HB.out)) hb); have n2_ := Aside0.mk (hbox); have n3_ := Aside0.mk ((by rw [hg]; exact (below_size (by repeat (first | (with_reducible first | exact HB.out | apply below_alloc | apply pw_below_drewN | apply below_drew1) | exact HB.out))) : w.heap.size ≤ gb435)); have n4_ := Aside0.mk ((by rw [hg]; exact (below_size (by repeat (first | (with_reducible first | exact HB.out | apply below_alloc | apply pw_below_drewN | apply below_drew1) | exact HB.out))) : w.heap.size ≤ gb435)); clear HO434; clear HB; have HO434 := n0_; have HB := n1_; have BK435 := n2_; have GW435 := n3_; have GE435 := n4_; clear n0_ n1_ n2_ n3_ n4_; clear hb hbox hg; have hcz7_0 : w6.cell? ⟨gb435, 0, none⟩ = some (.string (⟨#[]⟩ : ByteArray)) := (blk_cell BK435.out 0).trans rfl; have hcz7_1 : w6.cell? ⟨gb435, 1, none⟩ = some (.int .i64 0) := (blk_cell BK435.out 1).trans rfl; have hcz7_2 : w6.cell? ⟨gb435, 2, none⟩ = some (.slice none 0 0) := (blk_cell BK435.out 2).trans rfl; have hfz7_0 := blk_frozen BK435.out 0; have hfz7_1 := blk_frozen BK435.out 1; have hfz7_2 := blk_frozen BK435.out 2; obtain ⟨Ao8, co8, eo8⟩ := Kd.R_slice HO434.out; subst eo8) | ((with_reducible refine gate_callee (f := 36) rfl ?_); refine goesL_ (some 19) rfl rfl Try.func36 (by kernel_rfl) rfl #[.agg #[.string t430, .int .i64 t431, .slice Ao8 t432.length co8], .int .i64 4999] rfl (by (try simp only [List.map_toArray, List.map_cons, List.map_nil]); first | done | rfl | (simp only [List.length_drop, List.length_take]; rfl)) ?_; (with_reducible refine (zone_Local.calls k t430 t431 _ _ t432 4999 t436 t437 t438 _ ?side1 ?side2 A2.out).mono ?_); (case side1 => refine (Kd.R_reads' (e := 75) (base := w.heap.size) (ok := fun k_ => True) (n := t432.length) (c := co8) ?_).2.2; exact (by (with_reducible repeat (first | apply Kd.R_alloc | apply Kd.R_drewN | apply Kd.R_drew)); exact (Kd.R_mono (Kd.R_far (p := ⟨gb435, 2, none⟩) (Kd.R_far (p := ⟨gb435, 1, none⟩) (Kd.R_far (p := ⟨gb435, 0, none⟩) (Kd.R_types HO434.out BK435.out (by decide)) (fun _ hk => hk.2) (.string t430)) (fun _ hk => hk.2) (.int .i64 t431)) (fun _ hk => hk.2) (.slice Ao8 t432.length co8)) (fun _ h_ => h_.1)))); (case side2 => exact (Kd.R_reads' HO434.out).2.1); rintro e w9 ⟨rfl, hb⟩; refine ⟨_, rfl, ?_⟩; have n0_ := Aside0.mk (Kd.R_below (by (with_reducible repeat (first | apply Kd.R_alloc | apply Kd.R_drewN | apply Kd.R_drew)); exact (Kd.R_mono (Kd.R_far (p := ⟨gb435, 2, none⟩) (Kd.R_far (p := ⟨gb435, 1, none⟩) (Kd.R_far (p := ⟨gb435, 0, none⟩) (Kd.R_types HO434.out BK435.out (by decide)) (fun _ hk => hk.2) (.string t430)) (fun _ hk => hk.2) (.int .i64 t431)) (fun _ hk => hk.2) (.slice Ao8 t432.length co8)) (fun _ h_ => h_.1))) hb); have n1_ := Aside0.mk (blk_below (g := gb435) (o := .cells #[.string t430, .int .i64 t431, .slice Ao8 t432.length co8] 24 (0, 0)) (by (with_reducible repeat (first | refine blk_drewN ?_ _ | refine blk_drew ?_ | refine blk_alloc ?_ _)); refine blk_put (cs := #[.string t430, .int .i64 t431, .slice none 0 0]) ?_ 2 _ rfl; (with_reducible repeat (first | refine blk_drewN ?_ _ | refine blk_drew ?_ | refine blk_alloc ?_ _)); refine blk_put (cs := #[.string t430, .int .i64 0, .slice none 0 0]) ?_ 1 _ rfl; (with_reducible repeat (first | refine blk_drewN ?_ _ | refine blk_drew ?_ | refine blk_alloc ?_ _)); refine blk_put (cs := #[.string (⟨#[]⟩ : ByteArray), .int .i64 0, .slice none 0 0]) ?_ 0 _ rfl; (with_reducible repeat (first | refine blk_drewN ?_ _ | refine blk_drew ?_ | refine blk_alloc ?_ _)); exact BK435.out) hb); have n2_ := Aside0.mk (below_step (by repeat (first | (with_reducible first | exact HB.out | apply below_alloc | apply pw_below_drewN | apply below_drew1 | refine below_set ?_ GE435.out) | exact HB.out)) hb); clear HO434; clear BK435; clear HB; have HO434 := n0_; have BK435 := n1_; have HB := n2_; clear n0_ n1_ n2_; (try clear hb); (try clear hb2); (try clear hk); (try clear hi); have hcz10_0 : w9.cell? ⟨gb435, 0, none⟩ = some (.string t430) := (blk_cell BK435.out 0).trans rfl; have hcz10_1 : w9.cell? ⟨gb435, 1, none⟩ = some (.int .i64 t431) := (blk_cell BK435.out 1).trans rfl; have hcz10_2 : w9.cell? ⟨gb435, 2, none⟩ = some (.slice Ao8 t432.length co8) := (blk_cell BK435.out 2).trans rfl; have hfz10_0 := blk_frozen BK435.out 0; have hfz10_1 := blk_frozen BK435.out 1; have hfz10_2 := blk_frozen BK435.out 2) | ((with_reducible refine gate_callee (f := 36) rfl ?_); refine goesL_ (some 25) rfl rfl Try.func36 (by kernel_rfl) rfl #[.agg #[.string t430, .int .i64 t431, .slice Ao8 t432.length co8], .int .i64 5000] rfl (by (try simp only [List.map_toArray, List.map_cons, List.map_nil]); first | done | rfl | (simp only [List.length_drop, List.length_take]; rfl)) ?_; (with_reducible refine (zone_Local.calls k t430 t431 _ _ t432 5000 t439 t440 t441 _ ?side1 ?side2 A3.out).mono ?_); (case side1 => repeat (first | exact (Kd.R_reads' HO434.out).2.2 | (with_reducible refine Kd.C_alloc ?_ _) | (with_reducible refine Kd.C_drewN ?_ _) | (with_reducible refine Kd.C_drew ?_))); (case side2 => exact (Kd.R_reads' HO434.out).2.1); rintro e w11 ⟨rfl, hb⟩; refine ⟨_, rfl, ?_⟩; have n0_ := Aside0.mk (Kd.R_below (by (with_reducible repeat (first | apply Kd.R_alloc | apply Kd.R_drewN | apply Kd.R_drew)); exact HO434.out) hb); have n1_ := Aside0.mk (blk_below (g := gb435) (o := .cells #[.string t430, .int .i64 t431, .slice Ao8 t432.length co8] 24 (0, 0)) (by (with_reducible repeat (first | refine blk_drewN ?_ _ | refine blk_drew ?_ | refine blk_alloc ?_ _)); exact BK435.out) hb); have n2_ := Aside0.mk (below_step (by repeat (first | (with_reducible first | exact HB.out | apply below_alloc | apply pw_below_drewN | apply below_drew1 | refine below_set ?_ GE435.out) | exact HB.out)) hb); clear HO434; clear BK435; clear HB; have HO434 := n0_; have BK435 := n1_; have HB := n2_; clear n0_ n1_ n2_; (try clear hb); (try clear hb2); (try clear hk); (try clear hi)))
  (try simp only [Act.put, List.setIfInBounds_toArray, List.set_cons_zero, List.set_cons_succ])
  go_cut [8] (fun v8 wc => ∃ (kq : Nat) (x8_3 : Bool), v8 = .bool x8_3 ∧ Aside0 (wageofficelaw03_head.j0 kq x8_3 t430 t431 t432 = some r) ∧ Aside0 (kq ≤ k) ∧ Aside0 (Kd.R k75 75 wc w.heap.size (fun _ => True) (.slice Ao8 t432.length co8) t432) ∧ Aside0 (wc.heap[gb435]? = some (.cells #[.string t430, .int .i64 t431, (.slice Ao8 t432.length co8)] 24 (0, 0))) ∧ Aside0 (Below w.heap.size w wc))
  case first =>
    have H := HC4.out
    clear HC4
    replace H := Option.bind_eq_some_iff.mp H
    obtain ⟨t442, A120, H⟩ := H
    replace H : (if t442 = true then (if t438 = 0 then (if t441 = 0 then (if t436 = 3 then (if t437 = 739 then (if t439 = 3 then (if t440 = 800 then ((zone_Offset.f k t430 t431 t432 (-5)).bind fun t443 => (wageofficelaw03_head.j0 k (t443 == 60) t430 t431 t432)) else (wageofficelaw03_head.j0 k false t430 t431 t432)) else (wageofficelaw03_head.j0 k false t430 t431 t432)) else (wageofficelaw03_head.j0 k false t430 t431 t432)) else (wageofficelaw03_head.j0 k false t430 t431 t432)) else (wageofficelaw03_head.j0 k false t430 t431 t432)) else (wageofficelaw03_head.j0 k false t430 t431 t432)) else (wageofficelaw03_head.j0 k false t430 t431 t432)) = some r := H
    have A12 := Aside0.mk A120
    clear A120
    by_cases c13 : t442 = true
    · subst c13
      have H1 : (if t438 = 0 then (if t441 = 0 then (if t436 = 3 then (if t437 = 739 then (if t439 = 3 then (if t440 = 800 then ((zone_Offset.f k t430 t431 t432 (-5)).bind fun t443 => (wageofficelaw03_head.j0 k (t443 == 60) t430 t431 t432)) else (wageofficelaw03_head.j0 k false t430 t431 t432)) else (wageofficelaw03_head.j0 k false t430 t431 t432)) else (wageofficelaw03_head.j0 k false t430 t431 t432)) else (wageofficelaw03_head.j0 k false t430 t431 t432)) else (wageofficelaw03_head.j0 k false t430 t431 t432)) else (wageofficelaw03_head.j0 k false t430 t431 t432)) = some r := by rw [if_pos rfl] at H; exact H
      clear H
      have H := H1
      clear H1
      by_cases c14 : t438 = 0
      · rw [if_pos c14] at H
        have c14b0 : (t438 == 0) = true := beq_iff_eq.mpr c14
        have c14b1 : (t438 != 0) = false := bne_eq_false_iff_eq.mpr c14
        clear c14
        (first | rw [c14b0] | (simp only [i64_w, i32_w]; rw [c14b0]) | rw [c14b1] | skip)
        by_cases c15 : t441 = 0
        · rw [if_pos c15] at H
          have c15b0 : (t441 == 0) = true := beq_iff_eq.mpr c15
          have c15b1 : (t441 != 0) = false := bne_eq_false_iff_eq.mpr c15
          clear c15
          by_cases c16 : t436 = 3
          · rw [if_pos c16] at H
            have c16b0 : (t436 == 3) = true := beq_iff_eq.mpr c16
            have c16b1 : (t436 != 3) = false := bne_eq_false_iff_eq.mpr c16
            clear c16
            by_cases c17 : t437 = 739
            · rw [if_pos c17] at H
              have c17b0 : (t437 == 739) = true := beq_iff_eq.mpr c17
              have c17b1 : (t437 != 739) = false := bne_eq_false_iff_eq.mpr c17
              clear c17
              by_cases c18 : t439 = 3
              · rw [if_pos c18] at H
                have c18b0 : (t439 == 3) = true := beq_iff_eq.mpr c18
                have c18b1 : (t439 != 3) = false := bne_eq_false_iff_eq.mpr c18
                clear c18
                by_cases c19 : t440 = 800
                · rw [if_pos c19] at H
                  have c19b0 : (t440 == 800) = true := beq_iff_eq.mpr c19
                  have c19b1 : (t440 != 800) = false := bne_eq_false_iff_eq.mpr c19
                  clear c19
                  replace H := Option.bind_eq_some_iff.mp H
                  obtain ⟨t443, A200, H⟩ := H
                  replace H : (wageofficelaw03_head.j0 k (t443 == 60) t430 t431 t432) = some r := H
                  have A20 := Aside0.mk A200
                  clear A200
                  have H' := Aside0.mk H
                  clear H
                  have hcz21_0 : w11.cell? ⟨gb435, 0, none⟩ = some (.string t430) := (blk_cell BK435.out 0).trans rfl
                  have hcz21_1 : w11.cell? ⟨gb435, 1, none⟩ = some (.int .i64 t431) := (blk_cell BK435.out 1).trans rfl
                  have hcz21_2 : w11.cell? ⟨gb435, 2, none⟩ = some (.slice Ao8 t432.length co8) := (blk_cell BK435.out 2).trans rfl
                  have hfz21_0 := blk_frozen BK435.out 0
                  have hfz21_1 := blk_frozen BK435.out 1
                  have hfz21_2 := blk_frozen BK435.out 2
                  go_wp2_with (first | ((with_reducible refine gate_callee (f := 38) rfl ?_); refine goesL_ (some 30) rfl rfl Try.func38 (by kernel_rfl) rfl #[.agg #[.string t430, .int .i64 t431, .slice Ao8 t432.length co8]] rfl (by (try simp only [List.map_toArray, List.map_cons, List.map_nil]); first | done | rfl | (simp only [List.length_drop, List.length_take]; rfl)) ?_; (with_reducible refine (zone_Valid.calls k t430 t431 _ _ t432 true _ ?side1 ?side2 A12.out).mono ?_); (case side1 => repeat (first | exact (Kd.R_reads' HO434.out).2.2 | (with_reducible refine Kd.C_alloc ?_ _) | (with_reducible refine Kd.C_drewN ?_ _) | (with_reducible refine Kd.C_drew ?_))); (case side2 => exact (Kd.R_reads' HO434.out).2.1); rintro e w22 ⟨rfl, hb⟩; refine ⟨_, rfl, ?_⟩; have n0_ := Aside0.mk (Kd.R_below (by (with_reducible repeat (first | apply Kd.R_alloc | apply Kd.R_drewN | apply Kd.R_drew)); exact HO434.out) hb); have n1_ := Aside0.mk (blk_below (g := gb435) (o := .cells #[.string t430, .int .i64 t431, .slice Ao8 t432.length co8] 24 (0, 0)) (by (with_reducible repeat (first | refine blk_drewN ?_ _ | refine blk_drew ?_ | refine blk_alloc ?_ _)); exact BK435.out) hb); have n2_ := Aside0.mk (below_step (by repeat (first | (with_reducible first | exact HB.out | apply below_alloc | apply pw_below_drewN | apply below_drew1 | refine below_set ?_ GE435.out) | exact HB.out)) hb); clear HO434; clear BK435; clear HB; have HO434 := n0_; have BK435 := n1_; have HB := n2_; clear n0_ n1_ n2_; (try clear hb); (try clear hb2); (try clear hk); (try clear hi); have hcz23_0 : w22.cell? ⟨gb435, 0, none⟩ = some (.string t430) := (blk_cell BK435.out 0).trans rfl; have hcz23_1 : w22.cell? ⟨gb435, 1, none⟩ = some (.int .i64 t431) := (blk_cell BK435.out 1).trans rfl; have hcz23_2 : w22.cell? ⟨gb435, 2, none⟩ = some (.slice Ao8 t432.length co8) := (blk_cell BK435.out 2).trans rfl; have hfz23_0 := blk_frozen BK435.out 0; have hfz23_1 := blk_frozen BK435.out 1; have hfz23_2 := blk_frozen BK435.out 2) | (go_at_call 40; (with_reducible refine (zone_Offset.calls k t430 t431 _ _ t432 (-5) t443 _ ?side1 ?side2 A20.out).mono ?_); (case side1 => repeat (first | exact (Kd.R_reads' HO434.out).2.2 | (with_reducible refine Kd.C_alloc ?_ _) | (with_reducible refine Kd.C_drewN ?_ _) | (with_reducible refine Kd.C_drew ?_))); (case side2 => exact (Kd.R_reads' HO434.out).2.1); rintro e w24 ⟨rfl, hb⟩; have n0_ := Aside0.mk (Kd.R_below (by (with_reducible repeat (first | apply Kd.R_alloc | apply Kd.R_drewN | apply Kd.R_drew)); exact HO434.out) hb); have n1_ := Aside0.mk (blk_below (g := gb435) (o := .cells #[.string t430, .int .i64 t431, .slice Ao8 t432.length co8] 24 (0, 0)) (by (with_reducible repeat (first | refine blk_drewN ?_ _ | refine blk_drew ?_ | refine blk_alloc ?_ _)); exact BK435.out) hb); have n2_ := Aside0.mk (below_step (by repeat (first | (with_reducible first | exact HB.out | apply below_alloc | apply pw_below_drewN | apply below_drew1 | refine below_set ?_ GE435.out) | exact HB.out)) hb); clear HO434; clear BK435; clear HB; have HO434 := n0_; have BK435 := n1_; have HB := n2_; clear n0_ n1_ n2_; (try clear hb); (try clear hb2); (try clear hk); (try clear hi)))
                  go_meet
                  case rel => exact ⟨_, ((t443 == 60)), (by first | rfl | (simp; done) | (simp [*]; done)), H', ⟨by first | omega | exact Nat.le_refl _⟩, ⟨by (with_reducible repeat (first | apply Kd.R_alloc | apply Kd.R_drewN | apply Kd.R_drew)); exact HO434.out⟩, ⟨by (with_reducible repeat (first | refine blk_drewN ?_ _ | refine blk_drew ?_ | refine blk_alloc ?_ _)); exact BK435.out⟩, ⟨by repeat (first | (with_reducible first | exact HB.out | apply below_alloc | apply pw_below_drewN | apply below_drew1 | refine below_set ?_ GE435.out) | exact HB.out)⟩⟩
                · rw [if_neg c19] at H
                  have c19b0 : (t440 == 800) = false := beq_eq_false_iff_ne.mpr c19
                  have c19b1 : (t440 != 800) = true := bne_iff_ne.mpr c19
                  have H' := Aside0.mk H
                  clear H
                  have hcz25_0 : w11.cell? ⟨gb435, 0, none⟩ = some (.string t430) := (blk_cell BK435.out 0).trans rfl
                  have hcz25_1 : w11.cell? ⟨gb435, 1, none⟩ = some (.int .i64 t431) := (blk_cell BK435.out 1).trans rfl
                  have hcz25_2 : w11.cell? ⟨gb435, 2, none⟩ = some (.slice Ao8 t432.length co8) := (blk_cell BK435.out 2).trans rfl
                  have hfz25_0 := blk_frozen BK435.out 0
                  have hfz25_1 := blk_frozen BK435.out 1
                  have hfz25_2 := blk_frozen BK435.out 2
                  go_wp2_with (first | ((with_reducible refine gate_callee (f := 38) rfl ?_); refine goesL_ (some 30) rfl rfl Try.func38 (by kernel_rfl) rfl #[.agg #[.string t430, .int .i64 t431, .slice Ao8 t432.length co8]] rfl (by (try simp only [List.map_toArray, List.map_cons, List.map_nil]); first | done | rfl | (simp only [List.length_drop, List.length_take]; rfl)) ?_; (with_reducible refine (zone_Valid.calls k t430 t431 _ _ t432 true _ ?side1 ?side2 A12.out).mono ?_); (case side1 => repeat (first | exact (Kd.R_reads' HO434.out).2.2 | (with_reducible refine Kd.C_alloc ?_ _) | (with_reducible refine Kd.C_drewN ?_ _) | (with_reducible refine Kd.C_drew ?_))); (case side2 => exact (Kd.R_reads' HO434.out).2.1); rintro e w26 ⟨rfl, hb⟩; refine ⟨_, rfl, ?_⟩; have n0_ := Aside0.mk (Kd.R_below (by (with_reducible repeat (first | apply Kd.R_alloc | apply Kd.R_drewN | apply Kd.R_drew)); exact HO434.out) hb); have n1_ := Aside0.mk (blk_below (g := gb435) (o := .cells #[.string t430, .int .i64 t431, .slice Ao8 t432.length co8] 24 (0, 0)) (by (with_reducible repeat (first | refine blk_drewN ?_ _ | refine blk_drew ?_ | refine blk_alloc ?_ _)); exact BK435.out) hb); have n2_ := Aside0.mk (below_step (by repeat (first | (with_reducible first | exact HB.out | apply below_alloc | apply pw_below_drewN | apply below_drew1 | refine below_set ?_ GE435.out) | exact HB.out)) hb); clear HO434; clear BK435; clear HB; have HO434 := n0_; have BK435 := n1_; have HB := n2_; clear n0_ n1_ n2_; (try clear hb); (try clear hb2); (try clear hk); (try clear hi)))
                  go_meet
                  case rel => exact ⟨_, (false), (by first | rfl | (simp; done) | (simp [*]; done)), H', ⟨by first | omega | exact Nat.le_refl _⟩, ⟨by (with_reducible repeat (first | apply Kd.R_alloc | apply Kd.R_drewN | apply Kd.R_drew)); exact HO434.out⟩, ⟨by (with_reducible repeat (first | refine blk_drewN ?_ _ | refine blk_drew ?_ | refine blk_alloc ?_ _)); exact BK435.out⟩, ⟨by repeat (first | (with_reducible first | exact HB.out | apply below_alloc | apply pw_below_drewN | apply below_drew1 | refine below_set ?_ GE435.out) | exact HB.out)⟩⟩
              · rw [if_neg c18] at H
                have c18b0 : (t439 == 3) = false := beq_eq_false_iff_ne.mpr c18
                have c18b1 : (t439 != 3) = true := bne_iff_ne.mpr c18
                have H' := Aside0.mk H
                clear H
                have hcz27_0 : w11.cell? ⟨gb435, 0, none⟩ = some (.string t430) := (blk_cell BK435.out 0).trans rfl
                have hcz27_1 : w11.cell? ⟨gb435, 1, none⟩ = some (.int .i64 t431) := (blk_cell BK435.out 1).trans rfl
                have hcz27_2 : w11.cell? ⟨gb435, 2, none⟩ = some (.slice Ao8 t432.length co8) := (blk_cell BK435.out 2).trans rfl
                have hfz27_0 := blk_frozen BK435.out 0
                have hfz27_1 := blk_frozen BK435.out 1
                have hfz27_2 := blk_frozen BK435.out 2
                go_wp2_with (first | ((with_reducible refine gate_callee (f := 38) rfl ?_); refine goesL_ (some 30) rfl rfl Try.func38 (by kernel_rfl) rfl #[.agg #[.string t430, .int .i64 t431, .slice Ao8 t432.length co8]] rfl (by (try simp only [List.map_toArray, List.map_cons, List.map_nil]); first | done | rfl | (simp only [List.length_drop, List.length_take]; rfl)) ?_; (with_reducible refine (zone_Valid.calls k t430 t431 _ _ t432 true _ ?side1 ?side2 A12.out).mono ?_); (case side1 => repeat (first | exact (Kd.R_reads' HO434.out).2.2 | (with_reducible refine Kd.C_alloc ?_ _) | (with_reducible refine Kd.C_drewN ?_ _) | (with_reducible refine Kd.C_drew ?_))); (case side2 => exact (Kd.R_reads' HO434.out).2.1); rintro e w28 ⟨rfl, hb⟩; refine ⟨_, rfl, ?_⟩; have n0_ := Aside0.mk (Kd.R_below (by (with_reducible repeat (first | apply Kd.R_alloc | apply Kd.R_drewN | apply Kd.R_drew)); exact HO434.out) hb); have n1_ := Aside0.mk (blk_below (g := gb435) (o := .cells #[.string t430, .int .i64 t431, .slice Ao8 t432.length co8] 24 (0, 0)) (by (with_reducible repeat (first | refine blk_drewN ?_ _ | refine blk_drew ?_ | refine blk_alloc ?_ _)); exact BK435.out) hb); have n2_ := Aside0.mk (below_step (by repeat (first | (with_reducible first | exact HB.out | apply below_alloc | apply pw_below_drewN | apply below_drew1 | refine below_set ?_ GE435.out) | exact HB.out)) hb); clear HO434; clear BK435; clear HB; have HO434 := n0_; have BK435 := n1_; have HB := n2_; clear n0_ n1_ n2_; (try clear hb); (try clear hb2); (try clear hk); (try clear hi)))
                go_meet
                case rel => exact ⟨_, (false), (by first | rfl | (simp; done) | (simp [*]; done)), H', ⟨by first | omega | exact Nat.le_refl _⟩, ⟨by (with_reducible repeat (first | apply Kd.R_alloc | apply Kd.R_drewN | apply Kd.R_drew)); exact HO434.out⟩, ⟨by (with_reducible repeat (first | refine blk_drewN ?_ _ | refine blk_drew ?_ | refine blk_alloc ?_ _)); exact BK435.out⟩, ⟨by repeat (first | (with_reducible first | exact HB.out | apply below_alloc | apply pw_below_drewN | apply below_drew1 | refine below_set ?_ GE435.out) | exact HB.out)⟩⟩
            · rw [if_neg c17] at H
              have c17b0 : (t437 == 739) = false := beq_eq_false_iff_ne.mpr c17
              have c17b1 : (t437 != 739) = true := bne_iff_ne.mpr c17
              have H' := Aside0.mk H
              clear H
              have hcz29_0 : w11.cell? ⟨gb435, 0, none⟩ = some (.string t430) := (blk_cell BK435.out 0).trans rfl
              have hcz29_1 : w11.cell? ⟨gb435, 1, none⟩ = some (.int .i64 t431) := (blk_cell BK435.out 1).trans rfl
              have hcz29_2 : w11.cell? ⟨gb435, 2, none⟩ = some (.slice Ao8 t432.length co8) := (blk_cell BK435.out 2).trans rfl
              have hfz29_0 := blk_frozen BK435.out 0
              have hfz29_1 := blk_frozen BK435.out 1
              have hfz29_2 := blk_frozen BK435.out 2
              go_wp2_with (first | ((with_reducible refine gate_callee (f := 38) rfl ?_); refine goesL_ (some 30) rfl rfl Try.func38 (by kernel_rfl) rfl #[.agg #[.string t430, .int .i64 t431, .slice Ao8 t432.length co8]] rfl (by (try simp only [List.map_toArray, List.map_cons, List.map_nil]); first | done | rfl | (simp only [List.length_drop, List.length_take]; rfl)) ?_; (with_reducible refine (zone_Valid.calls k t430 t431 _ _ t432 true _ ?side1 ?side2 A12.out).mono ?_); (case side1 => repeat (first | exact (Kd.R_reads' HO434.out).2.2 | (with_reducible refine Kd.C_alloc ?_ _) | (with_reducible refine Kd.C_drewN ?_ _) | (with_reducible refine Kd.C_drew ?_))); (case side2 => exact (Kd.R_reads' HO434.out).2.1); rintro e w30 ⟨rfl, hb⟩; refine ⟨_, rfl, ?_⟩; have n0_ := Aside0.mk (Kd.R_below (by (with_reducible repeat (first | apply Kd.R_alloc | apply Kd.R_drewN | apply Kd.R_drew)); exact HO434.out) hb); have n1_ := Aside0.mk (blk_below (g := gb435) (o := .cells #[.string t430, .int .i64 t431, .slice Ao8 t432.length co8] 24 (0, 0)) (by (with_reducible repeat (first | refine blk_drewN ?_ _ | refine blk_drew ?_ | refine blk_alloc ?_ _)); exact BK435.out) hb); have n2_ := Aside0.mk (below_step (by repeat (first | (with_reducible first | exact HB.out | apply below_alloc | apply pw_below_drewN | apply below_drew1 | refine below_set ?_ GE435.out) | exact HB.out)) hb); clear HO434; clear BK435; clear HB; have HO434 := n0_; have BK435 := n1_; have HB := n2_; clear n0_ n1_ n2_; (try clear hb); (try clear hb2); (try clear hk); (try clear hi)))
              go_meet
              case rel => exact ⟨_, (false), (by first | rfl | (simp; done) | (simp [*]; done)), H', ⟨by first | omega | exact Nat.le_refl _⟩, ⟨by (with_reducible repeat (first | apply Kd.R_alloc | apply Kd.R_drewN | apply Kd.R_drew)); exact HO434.out⟩, ⟨by (with_reducible repeat (first | refine blk_drewN ?_ _ | refine blk_drew ?_ | refine blk_alloc ?_ _)); exact BK435.out⟩, ⟨by repeat (first | (with_reducible first | exact HB.out | apply below_alloc | apply pw_below_drewN | apply below_drew1 | refine below_set ?_ GE435.out) | exact HB.out)⟩⟩
          · rw [if_neg c16] at H
            have c16b0 : (t436 == 3) = false := beq_eq_false_iff_ne.mpr c16
            have c16b1 : (t436 != 3) = true := bne_iff_ne.mpr c16
            have H' := Aside0.mk H
            clear H
            have hcz31_0 : w11.cell? ⟨gb435, 0, none⟩ = some (.string t430) := (blk_cell BK435.out 0).trans rfl
            have hcz31_1 : w11.cell? ⟨gb435, 1, none⟩ = some (.int .i64 t431) := (blk_cell BK435.out 1).trans rfl
            have hcz31_2 : w11.cell? ⟨gb435, 2, none⟩ = some (.slice Ao8 t432.length co8) := (blk_cell BK435.out 2).trans rfl
            have hfz31_0 := blk_frozen BK435.out 0
            have hfz31_1 := blk_frozen BK435.out 1
            have hfz31_2 := blk_frozen BK435.out 2
            go_wp2_with (first | ((with_reducible refine gate_callee (f := 38) rfl ?_); refine goesL_ (some 30) rfl rfl Try.func38 (by kernel_rfl) rfl #[.agg #[.string t430, .int .i64 t431, .slice Ao8 t432.length co8]] rfl (by (try simp only [List.map_toArray, List.map_cons, List.map_nil]); first | done | rfl | (simp only [List.length_drop, List.length_take]; rfl)) ?_; (with_reducible refine (zone_Valid.calls k t430 t431 _ _ t432 true _ ?side1 ?side2 A12.out).mono ?_); (case side1 => repeat (first | exact (Kd.R_reads' HO434.out).2.2 | (with_reducible refine Kd.C_alloc ?_ _) | (with_reducible refine Kd.C_drewN ?_ _) | (with_reducible refine Kd.C_drew ?_))); (case side2 => exact (Kd.R_reads' HO434.out).2.1); rintro e w32 ⟨rfl, hb⟩; refine ⟨_, rfl, ?_⟩; have n0_ := Aside0.mk (Kd.R_below (by (with_reducible repeat (first | apply Kd.R_alloc | apply Kd.R_drewN | apply Kd.R_drew)); exact HO434.out) hb); have n1_ := Aside0.mk (blk_below (g := gb435) (o := .cells #[.string t430, .int .i64 t431, .slice Ao8 t432.length co8] 24 (0, 0)) (by (with_reducible repeat (first | refine blk_drewN ?_ _ | refine blk_drew ?_ | refine blk_alloc ?_ _)); exact BK435.out) hb); have n2_ := Aside0.mk (below_step (by repeat (first | (with_reducible first | exact HB.out | apply below_alloc | apply pw_below_drewN | apply below_drew1 | refine below_set ?_ GE435.out) | exact HB.out)) hb); clear HO434; clear BK435; clear HB; have HO434 := n0_; have BK435 := n1_; have HB := n2_; clear n0_ n1_ n2_; (try clear hb); (try clear hb2); (try clear hk); (try clear hi)))
            go_meet
            case rel => exact ⟨_, (false), (by first | rfl | (simp; done) | (simp [*]; done)), H', ⟨by first | omega | exact Nat.le_refl _⟩, ⟨by (with_reducible repeat (first | apply Kd.R_alloc | apply Kd.R_drewN | apply Kd.R_drew)); exact HO434.out⟩, ⟨by (with_reducible repeat (first | refine blk_drewN ?_ _ | refine blk_drew ?_ | refine blk_alloc ?_ _)); exact BK435.out⟩, ⟨by repeat (first | (with_reducible first | exact HB.out | apply below_alloc | apply pw_below_drewN | apply below_drew1 | refine below_set ?_ GE435.out) | exact HB.out)⟩⟩
        · rw [if_neg c15] at H
          have c15b0 : (t441 == 0) = false := beq_eq_false_iff_ne.mpr c15
          have c15b1 : (t441 != 0) = true := bne_iff_ne.mpr c15
          have H' := Aside0.mk H
          clear H
          have hcz33_0 : w11.cell? ⟨gb435, 0, none⟩ = some (.string t430) := (blk_cell BK435.out 0).trans rfl
          have hcz33_1 : w11.cell? ⟨gb435, 1, none⟩ = some (.int .i64 t431) := (blk_cell BK435.out 1).trans rfl
          have hcz33_2 : w11.cell? ⟨gb435, 2, none⟩ = some (.slice Ao8 t432.length co8) := (blk_cell BK435.out 2).trans rfl
          have hfz33_0 := blk_frozen BK435.out 0
          have hfz33_1 := blk_frozen BK435.out 1
          have hfz33_2 := blk_frozen BK435.out 2
          go_wp2_with (first | ((with_reducible refine gate_callee (f := 38) rfl ?_); refine goesL_ (some 30) rfl rfl Try.func38 (by kernel_rfl) rfl #[.agg #[.string t430, .int .i64 t431, .slice Ao8 t432.length co8]] rfl (by (try simp only [List.map_toArray, List.map_cons, List.map_nil]); first | done | rfl | (simp only [List.length_drop, List.length_take]; rfl)) ?_; (with_reducible refine (zone_Valid.calls k t430 t431 _ _ t432 true _ ?side1 ?side2 A12.out).mono ?_); (case side1 => repeat (first | exact (Kd.R_reads' HO434.out).2.2 | (with_reducible refine Kd.C_alloc ?_ _) | (with_reducible refine Kd.C_drewN ?_ _) | (with_reducible refine Kd.C_drew ?_))); (case side2 => exact (Kd.R_reads' HO434.out).2.1); rintro e w34 ⟨rfl, hb⟩; refine ⟨_, rfl, ?_⟩; have n0_ := Aside0.mk (Kd.R_below (by (with_reducible repeat (first | apply Kd.R_alloc | apply Kd.R_drewN | apply Kd.R_drew)); exact HO434.out) hb); have n1_ := Aside0.mk (blk_below (g := gb435) (o := .cells #[.string t430, .int .i64 t431, .slice Ao8 t432.length co8] 24 (0, 0)) (by (with_reducible repeat (first | refine blk_drewN ?_ _ | refine blk_drew ?_ | refine blk_alloc ?_ _)); exact BK435.out) hb); have n2_ := Aside0.mk (below_step (by repeat (first | (with_reducible first | exact HB.out | apply below_alloc | apply pw_below_drewN | apply below_drew1 | refine below_set ?_ GE435.out) | exact HB.out)) hb); clear HO434; clear BK435; clear HB; have HO434 := n0_; have BK435 := n1_; have HB := n2_; clear n0_ n1_ n2_; (try clear hb); (try clear hb2); (try clear hk); (try clear hi)))
          go_meet
          case rel => exact ⟨_, (false), (by first | rfl | (simp; done) | (simp [*]; done)), H', ⟨by first | omega | exact Nat.le_refl _⟩, ⟨by (with_reducible repeat (first | apply Kd.R_alloc | apply Kd.R_drewN | apply Kd.R_drew)); exact HO434.out⟩, ⟨by (with_reducible repeat (first | refine blk_drewN ?_ _ | refine blk_drew ?_ | refine blk_alloc ?_ _)); exact BK435.out⟩, ⟨by repeat (first | (with_reducible first | exact HB.out | apply below_alloc | apply pw_below_drewN | apply below_drew1 | refine below_set ?_ GE435.out) | exact HB.out)⟩⟩
      · rw [if_neg c14] at H
        have c14b0 : (t438 == 0) = false := beq_eq_false_iff_ne.mpr c14
        have c14b1 : (t438 != 0) = true := bne_iff_ne.mpr c14
        (first | rw [c14b0] | (simp only [i64_w, i32_w]; rw [c14b0]) | rw [c14b1] | skip)
        have H' := Aside0.mk H
        clear H
        have hcz35_0 : w11.cell? ⟨gb435, 0, none⟩ = some (.string t430) := (blk_cell BK435.out 0).trans rfl
        have hcz35_1 : w11.cell? ⟨gb435, 1, none⟩ = some (.int .i64 t431) := (blk_cell BK435.out 1).trans rfl
        have hcz35_2 : w11.cell? ⟨gb435, 2, none⟩ = some (.slice Ao8 t432.length co8) := (blk_cell BK435.out 2).trans rfl
        have hfz35_0 := blk_frozen BK435.out 0
        have hfz35_1 := blk_frozen BK435.out 1
        have hfz35_2 := blk_frozen BK435.out 2
        go_wp2_with (first | ((with_reducible refine gate_callee (f := 38) rfl ?_); refine goesL_ (some 30) rfl rfl Try.func38 (by kernel_rfl) rfl #[.agg #[.string t430, .int .i64 t431, .slice Ao8 t432.length co8]] rfl (by (try simp only [List.map_toArray, List.map_cons, List.map_nil]); first | done | rfl | (simp only [List.length_drop, List.length_take]; rfl)) ?_; (with_reducible refine (zone_Valid.calls k t430 t431 _ _ t432 true _ ?side1 ?side2 A12.out).mono ?_); (case side1 => repeat (first | exact (Kd.R_reads' HO434.out).2.2 | (with_reducible refine Kd.C_alloc ?_ _) | (with_reducible refine Kd.C_drewN ?_ _) | (with_reducible refine Kd.C_drew ?_))); (case side2 => exact (Kd.R_reads' HO434.out).2.1); rintro e w36 ⟨rfl, hb⟩; refine ⟨_, rfl, ?_⟩; have n0_ := Aside0.mk (Kd.R_below (by (with_reducible repeat (first | apply Kd.R_alloc | apply Kd.R_drewN | apply Kd.R_drew)); exact HO434.out) hb); have n1_ := Aside0.mk (blk_below (g := gb435) (o := .cells #[.string t430, .int .i64 t431, .slice Ao8 t432.length co8] 24 (0, 0)) (by (with_reducible repeat (first | refine blk_drewN ?_ _ | refine blk_drew ?_ | refine blk_alloc ?_ _)); exact BK435.out) hb); have n2_ := Aside0.mk (below_step (by repeat (first | (with_reducible first | exact HB.out | apply below_alloc | apply pw_below_drewN | apply below_drew1 | refine below_set ?_ GE435.out) | exact HB.out)) hb); clear HO434; clear BK435; clear HB; have HO434 := n0_; have BK435 := n1_; have HB := n2_; clear n0_ n1_ n2_; (try clear hb); (try clear hb2); (try clear hk); (try clear hi)))
        go_meet
        case rel => exact ⟨_, (false), (by first | rfl | (simp; done) | (simp [*]; done)), H', ⟨by first | omega | exact Nat.le_refl _⟩, ⟨by (with_reducible repeat (first | apply Kd.R_alloc | apply Kd.R_drewN | apply Kd.R_drew)); exact HO434.out⟩, ⟨by (with_reducible repeat (first | refine blk_drewN ?_ _ | refine blk_drew ?_ | refine blk_alloc ?_ _)); exact BK435.out⟩, ⟨by repeat (first | (with_reducible first | exact HB.out | apply below_alloc | apply pw_below_drewN | apply below_drew1 | refine below_set ?_ GE435.out) | exact HB.out)⟩⟩
    · replace c13 := Bool.eq_false_iff.mpr c13
      subst c13
      have H1 : (wageofficelaw03_head.j0 k false t430 t431 t432) = some r := by rw [if_neg (show ¬ (false = true) by decide)] at H; exact H
      clear H
      have H := H1
      clear H1
      have H' := Aside0.mk H
      clear H
      have hcz37_0 : w11.cell? ⟨gb435, 0, none⟩ = some (.string t430) := (blk_cell BK435.out 0).trans rfl
      have hcz37_1 : w11.cell? ⟨gb435, 1, none⟩ = some (.int .i64 t431) := (blk_cell BK435.out 1).trans rfl
      have hcz37_2 : w11.cell? ⟨gb435, 2, none⟩ = some (.slice Ao8 t432.length co8) := (blk_cell BK435.out 2).trans rfl
      have hfz37_0 := blk_frozen BK435.out 0
      have hfz37_1 := blk_frozen BK435.out 1
      have hfz37_2 := blk_frozen BK435.out 2
      go_wp2_with (first | ((with_reducible refine gate_callee (f := 38) rfl ?_); refine goesL_ (some 30) rfl rfl Try.func38 (by kernel_rfl) rfl #[.agg #[.string t430, .int .i64 t431, .slice Ao8 t432.length co8]] rfl (by (try simp only [List.map_toArray, List.map_cons, List.map_nil]); first | done | rfl | (simp only [List.length_drop, List.length_take]; rfl)) ?_; (with_reducible refine (zone_Valid.calls k t430 t431 _ _ t432 false _ ?side1 ?side2 A12.out).mono ?_); (case side1 => repeat (first | exact (Kd.R_reads' HO434.out).2.2 | (with_reducible refine Kd.C_alloc ?_ _) | (with_reducible refine Kd.C_drewN ?_ _) | (with_reducible refine Kd.C_drew ?_))); (case side2 => exact (Kd.R_reads' HO434.out).2.1); rintro e w38 ⟨rfl, hb⟩; refine ⟨_, rfl, ?_⟩; have n0_ := Aside0.mk (Kd.R_below (by (with_reducible repeat (first | apply Kd.R_alloc | apply Kd.R_drewN | apply Kd.R_drew)); exact HO434.out) hb); have n1_ := Aside0.mk (blk_below (g := gb435) (o := .cells #[.string t430, .int .i64 t431, .slice Ao8 t432.length co8] 24 (0, 0)) (by (with_reducible repeat (first | refine blk_drewN ?_ _ | refine blk_drew ?_ | refine blk_alloc ?_ _)); exact BK435.out) hb); have n2_ := Aside0.mk (below_step (by repeat (first | (with_reducible first | exact HB.out | apply below_alloc | apply pw_below_drewN | apply below_drew1 | refine below_set ?_ GE435.out) | exact HB.out)) hb); clear HO434; clear BK435; clear HB; have HO434 := n0_; have BK435 := n1_; have HB := n2_; clear n0_ n1_ n2_; (try clear hb); (try clear hb2); (try clear hk); (try clear hi)))
      go_meet
      case rel => exact ⟨_, (false), (by first | rfl | (simp; done) | (simp [*]; done)), H', ⟨by first | omega | exact Nat.le_refl _⟩, ⟨by (with_reducible repeat (first | apply Kd.R_alloc | apply Kd.R_drewN | apply Kd.R_drew)); exact HO434.out⟩, ⟨by (with_reducible repeat (first | refine blk_drewN ?_ _ | refine blk_drew ?_ | refine blk_alloc ?_ _)); exact BK435.out⟩, ⟨by repeat (first | (with_reducible first | exact HB.out | apply below_alloc | apply pw_below_drewN | apply below_drew1 | refine below_set ?_ GE435.out) | exact HB.out)⟩⟩
  case rest =>
    clear HC4
    try clear c1
    try clear p2
    try clear c3
    try clear c5
    try clear c13
    try clear c14
    try clear c14b0
    try clear c14b1
    try clear c15
    try clear c15b0
    try clear c15b1
    try clear c16
    try clear c16b0
    try clear c16b1
    try clear c17
    try clear c17b0
    try clear c17b1
    try clear c18
    try clear c18b0
    try clear c18b1
    try clear c19
    try clear c19b0
    try clear c19b1
    try clear c33
    try clear c36
    try clear c38
    try clear hcz10_0
    try clear hcz10_1
    try clear hcz10_2
    try clear hcz21_0
    try clear hcz21_1
    try clear hcz21_2
    try clear hcz23_0
    try clear hcz23_1
    try clear hcz23_2
    try clear hcz25_0
    try clear hcz25_1
    try clear hcz25_2
    try clear hcz27_0
    try clear hcz27_1
    try clear hcz27_2
    try clear hcz29_0
    try clear hcz29_1
    try clear hcz29_2
    try clear hcz31_0
    try clear hcz31_1
    try clear hcz31_2
    try clear hcz33_0
    try clear hcz33_1
    try clear hcz33_2
    try clear hcz35_0
    try clear hcz35_1
    try clear hcz35_2
    try clear hcz37_0
    try clear hcz37_1
    try clear hcz37_2
    try clear hcz7_0
    try clear hcz7_1
    try clear hcz7_2
    try clear hfz10_0
    try clear hfz10_1
    try clear hfz10_2
    try clear hfz21_0
    try clear hfz21_1
    try clear hfz21_2
    try clear hfz23_0
    try clear hfz23_1
    try clear hfz23_2
    try clear hfz25_0
    try clear hfz25_1
    try clear hfz25_2
    try clear hfz27_0
    try clear hfz27_1
    try clear hfz27_2
    try clear hfz29_0
    try clear hfz29_1
    try clear hfz29_2
    try clear hfz31_0
    try clear hfz31_1
    try clear hfz31_2
    try clear hfz33_0
    try clear hfz33_1
    try clear hfz33_2
    try clear hfz35_0
    try clear hfz35_1
    try clear hfz35_2
    try clear hfz37_0
    try clear hfz37_1
    try clear hfz37_2
    try clear hfz7_0
    try clear hfz7_1
    try clear hfz7_2
    obtain ⟨kq, x8_3, rfl, HA, HJ3, HO_436002, BK435, HB⟩ := hcut
    cases kq with
    | zero => exact absurd HA.out (by simp [wageofficelaw03_head.j0])
    | succ kj3 =>
      have H := HA.out
      clear HA
      simp only [wageofficelaw03_head.j0] at H
      have HC39 := Aside0.mk H
      clear H
      go_upto_region 5 with (fail)
      go_cut [8] (fun v8 wc => ∃ (kq : Nat) (x8_38 : Bool), v8 = .bool x8_38 ∧ Aside0 (wageofficelaw03_head.j1 kq x8_38 t430 t431 t432 = some r) ∧ Aside0 (kq ≤ kj3) ∧ Aside0 (Kd.R k75 75 wc w.heap.size (fun _ => True) (.slice Ao8 t432.length co8) t432) ∧ Aside0 (wc.heap[gb435]? = some (.cells #[.string t430, .int .i64 t431, (.slice Ao8 t432.length co8)] 24 (0, 0))) ∧ Aside0 (Below w.heap.size w wc))
      case first =>
        have H := HC39.out
        clear HC39
        by_cases c40 : x8_3 = true
        · subst c40
          have H1 : ((zone_Instants.f t430 t431 t432 3 750).bind fun t444 => (if (t444.length : Int) = 0 then ((zone_Instants.f t430 t431 t432 13 1370).bind fun t447 => ((wageofficeref03_Ints.f kj3 t447 (([19970, 20030] : List Int))).bind fun t453 => (if t453 = true then ((zone_Length.f t430 t431 t432 3).bind fun t454 => (if t454 = 1380 then ((zone_Length.f t430 t431 t432 13).bind fun t455 => (if t455 = 1500 then ((zone_Length.f t430 t431 t432 14).bind fun t456 => (wageofficelaw03_head.j1 kj3 (t456 == 1440) t430 t431 t432)) else (wageofficelaw03_head.j1 kj3 false t430 t431 t432))) else (wageofficelaw03_head.j1 kj3 false t430 t431 t432))) else (wageofficelaw03_head.j1 kj3 false t430 t431 t432)))) else (wageofficelaw03_head.j1 kj3 false t430 t431 t432))) = some r := by rw [if_pos rfl] at H; exact H
          clear H
          have H := H1
          clear H1
          replace H := Option.bind_eq_some_iff.mp H
          obtain ⟨t444, A410, H⟩ := H
          replace H : (if (t444.length : Int) = 0 then ((zone_Instants.f t430 t431 t432 13 1370).bind fun t447 => ((wageofficeref03_Ints.f kj3 t447 (([19970, 20030] : List Int))).bind fun t453 => (if t453 = true then ((zone_Length.f t430 t431 t432 3).bind fun t454 => (if t454 = 1380 then ((zone_Length.f t430 t431 t432 13).bind fun t455 => (if t455 = 1500 then ((zone_Length.f t430 t431 t432 14).bind fun t456 => (wageofficelaw03_head.j1 kj3 (t456 == 1440) t430 t431 t432)) else (wageofficelaw03_head.j1 kj3 false t430 t431 t432))) else (wageofficelaw03_head.j1 kj3 false t430 t431 t432))) else (wageofficelaw03_head.j1 kj3 false t430 t431 t432)))) else (wageofficelaw03_head.j1 kj3 false t430 t431 t432)) = some r := H
          have A41 := Aside0.mk A410
          clear A410
          by_cases c42 : (t444.length : Int) = 0
          · rw [if_pos c42] at H
            have c42b0 : ((t444.length : Int) == 0) = true := beq_iff_eq.mpr c42
            have c42b1 : ((t444.length : Int) != 0) = false := bne_eq_false_iff_eq.mpr c42
            clear c42
            (first | rw [c42b0] | (simp only [i64_w, i32_w]; rw [c42b0]) | rw [c42b1] | skip)
            replace H := Option.bind_eq_some_iff.mp H
            obtain ⟨t447, A430, H⟩ := H
            replace H : ((wageofficeref03_Ints.f kj3 t447 (([19970, 20030] : List Int))).bind fun t453 => (if t453 = true then ((zone_Length.f t430 t431 t432 3).bind fun t454 => (if t454 = 1380 then ((zone_Length.f t430 t431 t432 13).bind fun t455 => (if t455 = 1500 then ((zone_Length.f t430 t431 t432 14).bind fun t456 => (wageofficelaw03_head.j1 kj3 (t456 == 1440) t430 t431 t432)) else (wageofficelaw03_head.j1 kj3 false t430 t431 t432))) else (wageofficelaw03_head.j1 kj3 false t430 t431 t432))) else (wageofficelaw03_head.j1 kj3 false t430 t431 t432))) = some r := H
            have A43 := Aside0.mk A430
            clear A430
            obtain ⟨y450, hy450⟩ : ∃ y_ : List Int, y_ = (([19970, 20030] : List Int)) := ⟨_, rfl⟩
            replace H : ((wageofficeref03_Ints.f kj3 t447 y450).bind fun t453 => (if t453 = true then ((zone_Length.f t430 t431 t432 3).bind fun t454 => (if t454 = 1380 then ((zone_Length.f t430 t431 t432 13).bind fun t455 => (if t455 = 1500 then ((zone_Length.f t430 t431 t432 14).bind fun t456 => (wageofficelaw03_head.j1 kj3 (t456 == 1440) t430 t431 t432)) else (wageofficelaw03_head.j1 kj3 false t430 t431 t432))) else (wageofficelaw03_head.j1 kj3 false t430 t431 t432))) else (wageofficelaw03_head.j1 kj3 false t430 t431 t432))) = some r := by first | (rw [hy450]; with_reducible exact H) | (have H2_ := (Option.bind_some _ _).symm.trans H; rw [hy450]; with_reducible exact H2_) | (have H2_ := (Option.bind_some _ _).symm.trans H; with_reducible exact H2_) | with_reducible exact H | (rw [hy450]; exact H) | exact H
            have Ny450 := Aside0.mk hy450
            clear hy450
            replace H := Option.bind_eq_some_iff.mp H
            obtain ⟨t453, A440, H⟩ := H
            replace H : (if t453 = true then ((zone_Length.f t430 t431 t432 3).bind fun t454 => (if t454 = 1380 then ((zone_Length.f t430 t431 t432 13).bind fun t455 => (if t455 = 1500 then ((zone_Length.f t430 t431 t432 14).bind fun t456 => (wageofficelaw03_head.j1 kj3 (t456 == 1440) t430 t431 t432)) else (wageofficelaw03_head.j1 kj3 false t430 t431 t432))) else (wageofficelaw03_head.j1 kj3 false t430 t431 t432))) else (wageofficelaw03_head.j1 kj3 false t430 t431 t432)) = some r := H
            have A44 := Aside0.mk A440
            clear A440
            by_cases c45 : t453 = true
            · subst c45
              have H1 : ((zone_Length.f t430 t431 t432 3).bind fun t454 => (if t454 = 1380 then ((zone_Length.f t430 t431 t432 13).bind fun t455 => (if t455 = 1500 then ((zone_Length.f t430 t431 t432 14).bind fun t456 => (wageofficelaw03_head.j1 kj3 (t456 == 1440) t430 t431 t432)) else (wageofficelaw03_head.j1 kj3 false t430 t431 t432))) else (wageofficelaw03_head.j1 kj3 false t430 t431 t432))) = some r := by rw [if_pos rfl] at H; exact H
              clear H
              have H := H1
              clear H1
              replace H := Option.bind_eq_some_iff.mp H
              obtain ⟨t454, A460, H⟩ := H
              replace H : (if t454 = 1380 then ((zone_Length.f t430 t431 t432 13).bind fun t455 => (if t455 = 1500 then ((zone_Length.f t430 t431 t432 14).bind fun t456 => (wageofficelaw03_head.j1 kj3 (t456 == 1440) t430 t431 t432)) else (wageofficelaw03_head.j1 kj3 false t430 t431 t432))) else (wageofficelaw03_head.j1 kj3 false t430 t431 t432)) = some r := H
              have A46 := Aside0.mk A460
              clear A460
              by_cases c47 : t454 = 1380
              · rw [if_pos c47] at H
                have c47b0 : (t454 == 1380) = true := beq_iff_eq.mpr c47
                have c47b1 : (t454 != 1380) = false := bne_eq_false_iff_eq.mpr c47
                clear c47
                replace H := Option.bind_eq_some_iff.mp H
                obtain ⟨t455, A480, H⟩ := H
                replace H : (if t455 = 1500 then ((zone_Length.f t430 t431 t432 14).bind fun t456 => (wageofficelaw03_head.j1 kj3 (t456 == 1440) t430 t431 t432)) else (wageofficelaw03_head.j1 kj3 false t430 t431 t432)) = some r := H
                have A48 := Aside0.mk A480
                clear A480
                by_cases c49 : t455 = 1500
                · rw [if_pos c49] at H
                  have c49b0 : (t455 == 1500) = true := beq_iff_eq.mpr c49
                  have c49b1 : (t455 != 1500) = false := bne_eq_false_iff_eq.mpr c49
                  clear c49
                  replace H := Option.bind_eq_some_iff.mp H
                  obtain ⟨t456, A500, H⟩ := H
                  replace H : (wageofficelaw03_head.j1 kj3 (t456 == 1440) t430 t431 t432) = some r := H
                  have A50 := Aside0.mk A500
                  clear A500
                  have H' := Aside0.mk H
                  clear H
                  have hcz51_0 : wc.cell? ⟨gb435, 0, none⟩ = some (.string t430) := (blk_cell BK435.out 0).trans rfl
                  have hcz51_1 : wc.cell? ⟨gb435, 1, none⟩ = some (.int .i64 t431) := (blk_cell BK435.out 1).trans rfl
                  have hcz51_2 : wc.cell? ⟨gb435, 2, none⟩ = some (.slice Ao8 t432.length co8) := (blk_cell BK435.out 2).trans rfl
                  have hfz51_0 := blk_frozen BK435.out 0
                  have hfz51_1 := blk_frozen BK435.out 1
                  have hfz51_2 := blk_frozen BK435.out 2
                  go_wp2_with (first | (go_at_call 47; (with_reducible refine (zone_Instants.calls t430 t431 _ _ t432 3 750 t444 _ ?side1 ?side2 A41.out).mono ?_); (case side1 => repeat (first | exact (Kd.R_reads' HO_436002.out).2.2 | (with_reducible refine Kd.C_alloc ?_ _) | (with_reducible refine Kd.C_drewN ?_ _) | (with_reducible refine Kd.C_drew ?_))); (case side2 => exact (Kd.R_reads' HO_436002.out).2.1); rintro e w52 ⟨v445, rfl, ho0, hb⟩; have n0_ := Aside0.mk (Kd.R_below (by (with_reducible repeat (first | apply Kd.R_alloc | apply Kd.R_drewN | apply Kd.R_drew)); exact HO_436002.out) hb); have n1_ := Aside0.mk (Kd.R_lower ho0 (below_size (by repeat (first | (with_reducible first | exact HB.out | apply below_alloc | apply pw_below_drewN | apply below_drew1 | refine below_set ?_ GE435.out) | exact HB.out)))); have n2_ := Aside0.mk (blk_below (g := gb435) (o := .cells #[.string t430, .int .i64 t431, .slice Ao8 t432.length co8] 24 (0, 0)) (by (with_reducible repeat (first | refine blk_drewN ?_ _ | refine blk_drew ?_ | refine blk_alloc ?_ _)); exact BK435.out) hb); have n3_ := Aside0.mk (below_step (by repeat (first | (with_reducible first | exact HB.out | apply below_alloc | apply pw_below_drewN | apply below_drew1 | refine below_set ?_ GE435.out) | exact HB.out)) hb); clear HO_436002; clear BK435; clear HB; have HO_436002 := n0_; have HO446 := n1_; have BK435 := n2_; have HB := n3_; clear n0_ n1_ n2_ n3_; (try clear hb); (try clear hb2); (try clear hk); (try clear hi); (try clear ho0); obtain ⟨Ao53, co53, eo53⟩ := Kd.R_slice HO446.out; subst eo53; have hcz54_0 : w52.cell? ⟨gb435, 0, none⟩ = some (.string t430) := (blk_cell BK435.out 0).trans rfl; have hcz54_1 : w52.cell? ⟨gb435, 1, none⟩ = some (.int .i64 t431) := (blk_cell BK435.out 1).trans rfl; have hcz54_2 : w52.cell? ⟨gb435, 2, none⟩ = some (.slice Ao8 t432.length co8) := (blk_cell BK435.out 2).trans rfl; have hfz54_0 := blk_frozen BK435.out 0; have hfz54_1 := blk_frozen BK435.out 1; have hfz54_2 := blk_frozen BK435.out 2) | (go_at_call 47; (with_reducible refine (zone_Instants.calls t430 t431 _ _ t432 13 1370 t447 _ ?side1 ?side2 A43.out).mono ?_); (case side1 => repeat (first | exact (Kd.R_reads' HO_436002.out).2.2 | (with_reducible refine Kd.C_alloc ?_ _) | (with_reducible refine Kd.C_drewN ?_ _) | (with_reducible refine Kd.C_drew ?_))); (case side2 => exact (Kd.R_reads' HO_436002.out).2.1); rintro e w55 ⟨v448, rfl, ho0, hb⟩; have n0_ := Aside0.mk (Kd.R_below (by (with_reducible repeat (first | apply Kd.R_alloc | apply Kd.R_drewN | apply Kd.R_drew)); exact HO_436002.out) hb); have n1_ := Aside0.mk (Kd.R_elder' (by (with_reducible repeat (first | apply Kd.R_alloc | apply Kd.R_drewN | apply Kd.R_drew)); exact HO446.out) (Kd.R_base ho0) hb); have n2_ := Aside0.mk (Kd.R_lower (Kd.R_new' ho0 (Kd.R_lt (by (with_reducible repeat (first | apply Kd.R_alloc | apply Kd.R_drewN | apply Kd.R_drew)); exact HO446.out))) (below_size (by repeat (first | (with_reducible first | exact HB.out | apply below_alloc | apply pw_below_drewN | apply below_drew1 | refine below_set ?_ GE435.out) | exact HB.out)))); have n3_ := Aside0.mk (blk_below (g := gb435) (o := .cells #[.string t430, .int .i64 t431, .slice Ao8 t432.length co8] 24 (0, 0)) (by (with_reducible repeat (first | refine blk_drewN ?_ _ | refine blk_drew ?_ | refine blk_alloc ?_ _)); exact BK435.out) hb); have n4_ := Aside0.mk (below_step (by repeat (first | (with_reducible first | exact HB.out | apply below_alloc | apply pw_below_drewN | apply below_drew1 | refine below_set ?_ GE435.out) | exact HB.out)) hb); clear HO_436002; clear HO446; clear BK435; clear HB; have HO_436002 := n0_; have HO446 := n1_; have HO449 := n2_; have BK435 := n3_; have HB := n4_; clear n0_ n1_ n2_ n3_ n4_; (try clear hb); (try clear hb2); (try clear hk); (try clear hi); (try clear ho0)) | ((with_reducible refine gate_dst (N := 70) rfl ?_); (try (refine gate_guard (by rfl) ?_; dsimp only)); refine Kd.R_lit (Kd.int .i64) _ 3 ?hg (N := 70) ?hd (xs := ([19970, 20030] : List Int)) (inner := [.int .i64 19970, .int .i64 20030]) (ok := fun _ => True) (okp := fun _ => True) ?hr ?hp (fun _ hk => hk) trivial (Below.refl _ _) (Nat.le_refl _) (by simp) ?_; (case hd => rfl); (case hg => rfl); (case hr => first | (go_simp; done) | (go_simp; rfl)); (case hp => exact (Reps.one (show Kd.M (Kd.int .i64) _ _ _ 19970 [.int .i64 19970] from rfl) (Reps.one (show Kd.M (Kd.int .i64) _ _ _ 20030 [.int .i64 20030] from rfl) (Reps.none _ _)))); intro v451 w56 ho57 hb hg_ hnew_; clear hg_ hnew_; (first | rw [← Ny450.out] at ho57 | (simp only [Int.reduceToNat] at ho57; rw [← Ny450.out] at ho57)); have n0_ := Aside0.mk (Kd.R_below (by (with_reducible repeat (first | apply Kd.R_alloc | apply Kd.R_drewN | apply Kd.R_drew)); exact HO_436002.out) hb); have n1_ := Aside0.mk (Kd.R_elder' (by (with_reducible repeat (first | apply Kd.R_alloc | apply Kd.R_drewN | apply Kd.R_drew)); exact HO446.out) (Kd.R_base ho57) hb); have n2_ := Aside0.mk (Kd.R_elder' (by (with_reducible repeat (first | apply Kd.R_alloc | apply Kd.R_drewN | apply Kd.R_drew)); exact HO449.out) (Kd.R_base ho57) hb); have n3_ := Aside0.mk (Kd.R_lower (Kd.R_new' (Kd.R_new' ho57 (Kd.R_lt (by (with_reducible repeat (first | apply Kd.R_alloc | apply Kd.R_drewN | apply Kd.R_drew)); exact HO446.out))) (Kd.R_lt (by (with_reducible repeat (first | apply Kd.R_alloc | apply Kd.R_drewN | apply Kd.R_drew)); exact HO449.out))) (below_size (by repeat (first | (with_reducible first | exact HB.out | apply below_alloc | apply pw_below_drewN | apply below_drew1 | refine below_set ?_ GE435.out) | exact HB.out)))); have n4_ := Aside0.mk (blk_below (g := gb435) (o := .cells #[.string t430, .int .i64 t431, .slice Ao8 t432.length co8] 24 (0, 0)) (by (with_reducible repeat (first | refine blk_drewN ?_ _ | refine blk_drew ?_ | refine blk_alloc ?_ _)); exact BK435.out) hb); have n5_ := Aside0.mk (below_step (by repeat (first | (with_reducible first | exact HB.out | apply below_alloc | apply pw_below_drewN | apply below_drew1 | refine below_set ?_ GE435.out) | exact HB.out)) hb); clear HO_436002; clear HO446; clear HO449; clear BK435; clear HB; have HO_436002 := n0_; have HO446 := n1_; have HO449 := n2_; have HO452 := n3_; have BK435 := n4_; have HB := n5_; clear n0_ n1_ n2_ n3_ n4_ n5_; clear hb ho57; obtain ⟨Ao58, co58, eo58⟩ := Kd.R_slice HO449.out; subst eo58; obtain ⟨Ao59, co59, eo59⟩ := Kd.R_slice HO452.out; subst eo59) | (go_at_call 46; (with_reducible refine (wageofficeref03_Ints.calls kj3 _ _ t447 _ _ y450 true _ ?side1 ?side2 ?side3 ?side4 A44.out).mono ?_); (case side1 => repeat (first | exact (Kd.R_reads' HO449.out).2.2 | (with_reducible refine Kd.C_alloc ?_ _) | (with_reducible refine Kd.C_drewN ?_ _) | (with_reducible refine Kd.C_drew ?_))); (case side2 => exact (Kd.R_reads' HO449.out).2.1); (case side3 => repeat (first | exact (Kd.R_reads' HO452.out).2.2 | (with_reducible refine Kd.C_alloc ?_ _) | (with_reducible refine Kd.C_drewN ?_ _) | (with_reducible refine Kd.C_drew ?_))); (case side4 => exact (Kd.R_reads' HO452.out).2.1); rintro e w' ⟨rfl, ⟨nd, rfl⟩⟩; have hcz60_0 : w56.cell? ⟨gb435, 0, none⟩ = some (.string t430) := (blk_cell BK435.out 0).trans rfl; have hcz60_1 : w56.cell? ⟨gb435, 1, none⟩ = some (.int .i64 t431) := (blk_cell BK435.out 1).trans rfl; have hcz60_2 : w56.cell? ⟨gb435, 2, none⟩ = some (.slice Ao8 t432.length co8) := (blk_cell BK435.out 2).trans rfl; have hfz60_0 := blk_frozen BK435.out 0; have hfz60_1 := blk_frozen BK435.out 1; have hfz60_2 := blk_frozen BK435.out 2) | (go_at_call 49; (with_reducible refine (zone_Length.calls t430 t431 _ _ t432 3 t454 _ ?side1 ?side2 A46.out).mono ?_); (case side1 => repeat (first | exact (Kd.R_reads' HO_436002.out).2.2 | (with_reducible refine Kd.C_alloc ?_ _) | (with_reducible refine Kd.C_drewN ?_ _) | (with_reducible refine Kd.C_drew ?_))); (case side2 => exact (Kd.R_reads' HO_436002.out).2.1); rintro e w61 ⟨rfl, hb⟩; have n0_ := Aside0.mk (Kd.R_below (by (with_reducible repeat (first | apply Kd.R_alloc | apply Kd.R_drewN | apply Kd.R_drew)); exact HO_436002.out) hb); have n1_ := Aside0.mk (Kd.R_below (by (with_reducible repeat (first | apply Kd.R_alloc | apply Kd.R_drewN | apply Kd.R_drew)); exact HO446.out) hb); have n2_ := Aside0.mk (Kd.R_below (by (with_reducible repeat (first | apply Kd.R_alloc | apply Kd.R_drewN | apply Kd.R_drew)); exact HO449.out) hb); have n3_ := Aside0.mk (Kd.R_below (by (with_reducible repeat (first | apply Kd.R_alloc | apply Kd.R_drewN | apply Kd.R_drew)); exact HO452.out) hb); have n4_ := Aside0.mk (blk_below (g := gb435) (o := .cells #[.string t430, .int .i64 t431, .slice Ao8 t432.length co8] 24 (0, 0)) (by (with_reducible repeat (first | refine blk_drewN ?_ _ | refine blk_drew ?_ | refine blk_alloc ?_ _)); exact BK435.out) hb); have n5_ := Aside0.mk (below_step (by repeat (first | (with_reducible first | exact HB.out | apply below_alloc | apply pw_below_drewN | apply below_drew1 | refine below_set ?_ GE435.out) | exact HB.out)) hb); clear HO_436002; clear HO446; clear HO449; clear HO452; clear BK435; clear HB; have HO_436002 := n0_; have HO446 := n1_; have HO449 := n2_; have HO452 := n3_; have BK435 := n4_; have HB := n5_; clear n0_ n1_ n2_ n3_ n4_ n5_; (try clear hb); (try clear hb2); (try clear hk); (try clear hi); have hcz62_0 : w61.cell? ⟨gb435, 0, none⟩ = some (.string t430) := (blk_cell BK435.out 0).trans rfl; have hcz62_1 : w61.cell? ⟨gb435, 1, none⟩ = some (.int .i64 t431) := (blk_cell BK435.out 1).trans rfl; have hcz62_2 : w61.cell? ⟨gb435, 2, none⟩ = some (.slice Ao8 t432.length co8) := (blk_cell BK435.out 2).trans rfl; have hfz62_0 := blk_frozen BK435.out 0; have hfz62_1 := blk_frozen BK435.out 1; have hfz62_2 := blk_frozen BK435.out 2) | (go_at_call 49; (with_reducible refine (zone_Length.calls t430 t431 _ _ t432 13 t455 _ ?side1 ?side2 A48.out).mono ?_); (case side1 => repeat (first | exact (Kd.R_reads' HO_436002.out).2.2 | (with_reducible refine Kd.C_alloc ?_ _) | (with_reducible refine Kd.C_drewN ?_ _) | (with_reducible refine Kd.C_drew ?_))); (case side2 => exact (Kd.R_reads' HO_436002.out).2.1); rintro e w63 ⟨rfl, hb⟩; have n0_ := Aside0.mk (Kd.R_below (by (with_reducible repeat (first | apply Kd.R_alloc | apply Kd.R_drewN | apply Kd.R_drew)); exact HO_436002.out) hb); have n1_ := Aside0.mk (Kd.R_below (by (with_reducible repeat (first | apply Kd.R_alloc | apply Kd.R_drewN | apply Kd.R_drew)); exact HO446.out) hb); have n2_ := Aside0.mk (Kd.R_below (by (with_reducible repeat (first | apply Kd.R_alloc | apply Kd.R_drewN | apply Kd.R_drew)); exact HO449.out) hb); have n3_ := Aside0.mk (Kd.R_below (by (with_reducible repeat (first | apply Kd.R_alloc | apply Kd.R_drewN | apply Kd.R_drew)); exact HO452.out) hb); have n4_ := Aside0.mk (blk_below (g := gb435) (o := .cells #[.string t430, .int .i64 t431, .slice Ao8 t432.length co8] 24 (0, 0)) (by (with_reducible repeat (first | refine blk_drewN ?_ _ | refine blk_drew ?_ | refine blk_alloc ?_ _)); exact BK435.out) hb); have n5_ := Aside0.mk (below_step (by repeat (first | (with_reducible first | exact HB.out | apply below_alloc | apply pw_below_drewN | apply below_drew1 | refine below_set ?_ GE435.out) | exact HB.out)) hb); clear HO_436002; clear HO446; clear HO449; clear HO452; clear BK435; clear HB; have HO_436002 := n0_; have HO446 := n1_; have HO449 := n2_; have HO452 := n3_; have BK435 := n4_; have HB := n5_; clear n0_ n1_ n2_ n3_ n4_ n5_; (try clear hb); (try clear hb2); (try clear hk); (try clear hi); have hcz64_0 : w63.cell? ⟨gb435, 0, none⟩ = some (.string t430) := (blk_cell BK435.out 0).trans rfl; have hcz64_1 : w63.cell? ⟨gb435, 1, none⟩ = some (.int .i64 t431) := (blk_cell BK435.out 1).trans rfl; have hcz64_2 : w63.cell? ⟨gb435, 2, none⟩ = some (.slice Ao8 t432.length co8) := (blk_cell BK435.out 2).trans rfl; have hfz64_0 := blk_frozen BK435.out 0; have hfz64_1 := blk_frozen BK435.out 1; have hfz64_2 := blk_frozen BK435.out 2) | (go_at_call 49; (with_reducible refine (zone_Length.calls t430 t431 _ _ t432 14 t456 _ ?side1 ?side2 A50.out).mono ?_); (case side1 => repeat (first | exact (Kd.R_reads' HO_436002.out).2.2 | (with_reducible refine Kd.C_alloc ?_ _) | (with_reducible refine Kd.C_drewN ?_ _) | (with_reducible refine Kd.C_drew ?_))); (case side2 => exact (Kd.R_reads' HO_436002.out).2.1); rintro e w65 ⟨rfl, hb⟩; have n0_ := Aside0.mk (Kd.R_below (by (with_reducible repeat (first | apply Kd.R_alloc | apply Kd.R_drewN | apply Kd.R_drew)); exact HO_436002.out) hb); have n1_ := Aside0.mk (Kd.R_below (by (with_reducible repeat (first | apply Kd.R_alloc | apply Kd.R_drewN | apply Kd.R_drew)); exact HO446.out) hb); have n2_ := Aside0.mk (Kd.R_below (by (with_reducible repeat (first | apply Kd.R_alloc | apply Kd.R_drewN | apply Kd.R_drew)); exact HO449.out) hb); have n3_ := Aside0.mk (Kd.R_below (by (with_reducible repeat (first | apply Kd.R_alloc | apply Kd.R_drewN | apply Kd.R_drew)); exact HO452.out) hb); have n4_ := Aside0.mk (blk_below (g := gb435) (o := .cells #[.string t430, .int .i64 t431, .slice Ao8 t432.length co8] 24 (0, 0)) (by (with_reducible repeat (first | refine blk_drewN ?_ _ | refine blk_drew ?_ | refine blk_alloc ?_ _)); exact BK435.out) hb); have n5_ := Aside0.mk (below_step (by repeat (first | (with_reducible first | exact HB.out | apply below_alloc | apply pw_below_drewN | apply below_drew1 | refine below_set ?_ GE435.out) | exact HB.out)) hb); clear HO_436002; clear HO446; clear HO449; clear HO452; clear BK435; clear HB; have HO_436002 := n0_; have HO446 := n1_; have HO449 := n2_; have HO452 := n3_; have BK435 := n4_; have HB := n5_; clear n0_ n1_ n2_ n3_ n4_ n5_; (try clear hb); (try clear hb2); (try clear hk); (try clear hi)))
                  go_meet
                  case rel => exact ⟨_, ((t456 == 1440)), (by first | rfl | (simp; done) | (simp [*]; done)), H', ⟨by have := HJ3.out; first | omega | exact Nat.le_refl _⟩, ⟨by (with_reducible repeat (first | apply Kd.R_alloc | apply Kd.R_drewN | apply Kd.R_drew)); exact HO_436002.out⟩, ⟨by (with_reducible repeat (first | refine blk_drewN ?_ _ | refine blk_drew ?_ | refine blk_alloc ?_ _)); exact BK435.out⟩, ⟨by repeat (first | (with_reducible first | exact HB.out | apply below_alloc | apply pw_below_drewN | apply below_drew1 | refine below_set ?_ GE435.out) | exact HB.out)⟩⟩
                · rw [if_neg c49] at H
                  have c49b0 : (t455 == 1500) = false := beq_eq_false_iff_ne.mpr c49
                  have c49b1 : (t455 != 1500) = true := bne_iff_ne.mpr c49
                  have H' := Aside0.mk H
                  clear H
                  have hcz66_0 : wc.cell? ⟨gb435, 0, none⟩ = some (.string t430) := (blk_cell BK435.out 0).trans rfl
                  have hcz66_1 : wc.cell? ⟨gb435, 1, none⟩ = some (.int .i64 t431) := (blk_cell BK435.out 1).trans rfl
                  have hcz66_2 : wc.cell? ⟨gb435, 2, none⟩ = some (.slice Ao8 t432.length co8) := (blk_cell BK435.out 2).trans rfl
                  have hfz66_0 := blk_frozen BK435.out 0
                  have hfz66_1 := blk_frozen BK435.out 1
                  have hfz66_2 := blk_frozen BK435.out 2
                  go_wp2_with (first | (go_at_call 47; (with_reducible refine (zone_Instants.calls t430 t431 _ _ t432 3 750 t444 _ ?side1 ?side2 A41.out).mono ?_); (case side1 => repeat (first | exact (Kd.R_reads' HO_436002.out).2.2 | (with_reducible refine Kd.C_alloc ?_ _) | (with_reducible refine Kd.C_drewN ?_ _) | (with_reducible refine Kd.C_drew ?_))); (case side2 => exact (Kd.R_reads' HO_436002.out).2.1); rintro e w67 ⟨v445, rfl, ho0, hb⟩; have n0_ := Aside0.mk (Kd.R_below (by (with_reducible repeat (first | apply Kd.R_alloc | apply Kd.R_drewN | apply Kd.R_drew)); exact HO_436002.out) hb); have n1_ := Aside0.mk (Kd.R_lower ho0 (below_size (by repeat (first | (with_reducible first | exact HB.out | apply below_alloc | apply pw_below_drewN | apply below_drew1 | refine below_set ?_ GE435.out) | exact HB.out)))); have n2_ := Aside0.mk (blk_below (g := gb435) (o := .cells #[.string t430, .int .i64 t431, .slice Ao8 t432.length co8] 24 (0, 0)) (by (with_reducible repeat (first | refine blk_drewN ?_ _ | refine blk_drew ?_ | refine blk_alloc ?_ _)); exact BK435.out) hb); have n3_ := Aside0.mk (below_step (by repeat (first | (with_reducible first | exact HB.out | apply below_alloc | apply pw_below_drewN | apply below_drew1 | refine below_set ?_ GE435.out) | exact HB.out)) hb); clear HO_436002; clear BK435; clear HB; have HO_436002 := n0_; have HO446 := n1_; have BK435 := n2_; have HB := n3_; clear n0_ n1_ n2_ n3_; (try clear hb); (try clear hb2); (try clear hk); (try clear hi); (try clear ho0); obtain ⟨Ao68, co68, eo68⟩ := Kd.R_slice HO446.out; subst eo68; have hcz69_0 : w67.cell? ⟨gb435, 0, none⟩ = some (.string t430) := (blk_cell BK435.out 0).trans rfl; have hcz69_1 : w67.cell? ⟨gb435, 1, none⟩ = some (.int .i64 t431) := (blk_cell BK435.out 1).trans rfl; have hcz69_2 : w67.cell? ⟨gb435, 2, none⟩ = some (.slice Ao8 t432.length co8) := (blk_cell BK435.out 2).trans rfl; have hfz69_0 := blk_frozen BK435.out 0; have hfz69_1 := blk_frozen BK435.out 1; have hfz69_2 := blk_frozen BK435.out 2) | (go_at_call 47; (with_reducible refine (zone_Instants.calls t430 t431 _ _ t432 13 1370 t447 _ ?side1 ?side2 A43.out).mono ?_); (case side1 => repeat (first | exact (Kd.R_reads' HO_436002.out).2.2 | (with_reducible refine Kd.C_alloc ?_ _) | (with_reducible refine Kd.C_drewN ?_ _) | (with_reducible refine Kd.C_drew ?_))); (case side2 => exact (Kd.R_reads' HO_436002.out).2.1); rintro e w70 ⟨v448, rfl, ho0, hb⟩; have n0_ := Aside0.mk (Kd.R_below (by (with_reducible repeat (first | apply Kd.R_alloc | apply Kd.R_drewN | apply Kd.R_drew)); exact HO_436002.out) hb); have n1_ := Aside0.mk (Kd.R_elder' (by (with_reducible repeat (first | apply Kd.R_alloc | apply Kd.R_drewN | apply Kd.R_drew)); exact HO446.out) (Kd.R_base ho0) hb); have n2_ := Aside0.mk (Kd.R_lower (Kd.R_new' ho0 (Kd.R_lt (by (with_reducible repeat (first | apply Kd.R_alloc | apply Kd.R_drewN | apply Kd.R_drew)); exact HO446.out))) (below_size (by repeat (first | (with_reducible first | exact HB.out | apply below_alloc | apply pw_below_drewN | apply below_drew1 | refine below_set ?_ GE435.out) | exact HB.out)))); have n3_ := Aside0.mk (blk_below (g := gb435) (o := .cells #[.string t430, .int .i64 t431, .slice Ao8 t432.length co8] 24 (0, 0)) (by (with_reducible repeat (first | refine blk_drewN ?_ _ | refine blk_drew ?_ | refine blk_alloc ?_ _)); exact BK435.out) hb); have n4_ := Aside0.mk (below_step (by repeat (first | (with_reducible first | exact HB.out | apply below_alloc | apply pw_below_drewN | apply below_drew1 | refine below_set ?_ GE435.out) | exact HB.out)) hb); clear HO_436002; clear HO446; clear BK435; clear HB; have HO_436002 := n0_; have HO446 := n1_; have HO449 := n2_; have BK435 := n3_; have HB := n4_; clear n0_ n1_ n2_ n3_ n4_; (try clear hb); (try clear hb2); (try clear hk); (try clear hi); (try clear ho0)) | ((with_reducible refine gate_dst (N := 70) rfl ?_); (try (refine gate_guard (by rfl) ?_; dsimp only)); refine Kd.R_lit (Kd.int .i64) _ 3 ?hg (N := 70) ?hd (xs := ([19970, 20030] : List Int)) (inner := [.int .i64 19970, .int .i64 20030]) (ok := fun _ => True) (okp := fun _ => True) ?hr ?hp (fun _ hk => hk) trivial (Below.refl _ _) (Nat.le_refl _) (by simp) ?_; (case hd => rfl); (case hg => rfl); (case hr => first | (go_simp; done) | (go_simp; rfl)); (case hp => exact (Reps.one (show Kd.M (Kd.int .i64) _ _ _ 19970 [.int .i64 19970] from rfl) (Reps.one (show Kd.M (Kd.int .i64) _ _ _ 20030 [.int .i64 20030] from rfl) (Reps.none _ _)))); intro v451 w71 ho72 hb hg_ hnew_; clear hg_ hnew_; (first | rw [← Ny450.out] at ho72 | (simp only [Int.reduceToNat] at ho72; rw [← Ny450.out] at ho72)); have n0_ := Aside0.mk (Kd.R_below (by (with_reducible repeat (first | apply Kd.R_alloc | apply Kd.R_drewN | apply Kd.R_drew)); exact HO_436002.out) hb); have n1_ := Aside0.mk (Kd.R_elder' (by (with_reducible repeat (first | apply Kd.R_alloc | apply Kd.R_drewN | apply Kd.R_drew)); exact HO446.out) (Kd.R_base ho72) hb); have n2_ := Aside0.mk (Kd.R_elder' (by (with_reducible repeat (first | apply Kd.R_alloc | apply Kd.R_drewN | apply Kd.R_drew)); exact HO449.out) (Kd.R_base ho72) hb); have n3_ := Aside0.mk (Kd.R_lower (Kd.R_new' (Kd.R_new' ho72 (Kd.R_lt (by (with_reducible repeat (first | apply Kd.R_alloc | apply Kd.R_drewN | apply Kd.R_drew)); exact HO446.out))) (Kd.R_lt (by (with_reducible repeat (first | apply Kd.R_alloc | apply Kd.R_drewN | apply Kd.R_drew)); exact HO449.out))) (below_size (by repeat (first | (with_reducible first | exact HB.out | apply below_alloc | apply pw_below_drewN | apply below_drew1 | refine below_set ?_ GE435.out) | exact HB.out)))); have n4_ := Aside0.mk (blk_below (g := gb435) (o := .cells #[.string t430, .int .i64 t431, .slice Ao8 t432.length co8] 24 (0, 0)) (by (with_reducible repeat (first | refine blk_drewN ?_ _ | refine blk_drew ?_ | refine blk_alloc ?_ _)); exact BK435.out) hb); have n5_ := Aside0.mk (below_step (by repeat (first | (with_reducible first | exact HB.out | apply below_alloc | apply pw_below_drewN | apply below_drew1 | refine below_set ?_ GE435.out) | exact HB.out)) hb); clear HO_436002; clear HO446; clear HO449; clear BK435; clear HB; have HO_436002 := n0_; have HO446 := n1_; have HO449 := n2_; have HO452 := n3_; have BK435 := n4_; have HB := n5_; clear n0_ n1_ n2_ n3_ n4_ n5_; clear hb ho72; obtain ⟨Ao73, co73, eo73⟩ := Kd.R_slice HO449.out; subst eo73; obtain ⟨Ao74, co74, eo74⟩ := Kd.R_slice HO452.out; subst eo74) | (go_at_call 46; (with_reducible refine (wageofficeref03_Ints.calls kj3 _ _ t447 _ _ y450 true _ ?side1 ?side2 ?side3 ?side4 A44.out).mono ?_); (case side1 => repeat (first | exact (Kd.R_reads' HO449.out).2.2 | (with_reducible refine Kd.C_alloc ?_ _) | (with_reducible refine Kd.C_drewN ?_ _) | (with_reducible refine Kd.C_drew ?_))); (case side2 => exact (Kd.R_reads' HO449.out).2.1); (case side3 => repeat (first | exact (Kd.R_reads' HO452.out).2.2 | (with_reducible refine Kd.C_alloc ?_ _) | (with_reducible refine Kd.C_drewN ?_ _) | (with_reducible refine Kd.C_drew ?_))); (case side4 => exact (Kd.R_reads' HO452.out).2.1); rintro e w' ⟨rfl, ⟨nd, rfl⟩⟩; have hcz75_0 : w71.cell? ⟨gb435, 0, none⟩ = some (.string t430) := (blk_cell BK435.out 0).trans rfl; have hcz75_1 : w71.cell? ⟨gb435, 1, none⟩ = some (.int .i64 t431) := (blk_cell BK435.out 1).trans rfl; have hcz75_2 : w71.cell? ⟨gb435, 2, none⟩ = some (.slice Ao8 t432.length co8) := (blk_cell BK435.out 2).trans rfl; have hfz75_0 := blk_frozen BK435.out 0; have hfz75_1 := blk_frozen BK435.out 1; have hfz75_2 := blk_frozen BK435.out 2) | (go_at_call 49; (with_reducible refine (zone_Length.calls t430 t431 _ _ t432 3 t454 _ ?side1 ?side2 A46.out).mono ?_); (case side1 => repeat (first | exact (Kd.R_reads' HO_436002.out).2.2 | (with_reducible refine Kd.C_alloc ?_ _) | (with_reducible refine Kd.C_drewN ?_ _) | (with_reducible refine Kd.C_drew ?_))); (case side2 => exact (Kd.R_reads' HO_436002.out).2.1); rintro e w76 ⟨rfl, hb⟩; have n0_ := Aside0.mk (Kd.R_below (by (with_reducible repeat (first | apply Kd.R_alloc | apply Kd.R_drewN | apply Kd.R_drew)); exact HO_436002.out) hb); have n1_ := Aside0.mk (Kd.R_below (by (with_reducible repeat (first | apply Kd.R_alloc | apply Kd.R_drewN | apply Kd.R_drew)); exact HO446.out) hb); have n2_ := Aside0.mk (Kd.R_below (by (with_reducible repeat (first | apply Kd.R_alloc | apply Kd.R_drewN | apply Kd.R_drew)); exact HO449.out) hb); have n3_ := Aside0.mk (Kd.R_below (by (with_reducible repeat (first | apply Kd.R_alloc | apply Kd.R_drewN | apply Kd.R_drew)); exact HO452.out) hb); have n4_ := Aside0.mk (blk_below (g := gb435) (o := .cells #[.string t430, .int .i64 t431, .slice Ao8 t432.length co8] 24 (0, 0)) (by (with_reducible repeat (first | refine blk_drewN ?_ _ | refine blk_drew ?_ | refine blk_alloc ?_ _)); exact BK435.out) hb); have n5_ := Aside0.mk (below_step (by repeat (first | (with_reducible first | exact HB.out | apply below_alloc | apply pw_below_drewN | apply below_drew1 | refine below_set ?_ GE435.out) | exact HB.out)) hb); clear HO_436002; clear HO446; clear HO449; clear HO452; clear BK435; clear HB; have HO_436002 := n0_; have HO446 := n1_; have HO449 := n2_; have HO452 := n3_; have BK435 := n4_; have HB := n5_; clear n0_ n1_ n2_ n3_ n4_ n5_; (try clear hb); (try clear hb2); (try clear hk); (try clear hi); have hcz77_0 : w76.cell? ⟨gb435, 0, none⟩ = some (.string t430) := (blk_cell BK435.out 0).trans rfl; have hcz77_1 : w76.cell? ⟨gb435, 1, none⟩ = some (.int .i64 t431) := (blk_cell BK435.out 1).trans rfl; have hcz77_2 : w76.cell? ⟨gb435, 2, none⟩ = some (.slice Ao8 t432.length co8) := (blk_cell BK435.out 2).trans rfl; have hfz77_0 := blk_frozen BK435.out 0; have hfz77_1 := blk_frozen BK435.out 1; have hfz77_2 := blk_frozen BK435.out 2) | (go_at_call 49; (with_reducible refine (zone_Length.calls t430 t431 _ _ t432 13 t455 _ ?side1 ?side2 A48.out).mono ?_); (case side1 => repeat (first | exact (Kd.R_reads' HO_436002.out).2.2 | (with_reducible refine Kd.C_alloc ?_ _) | (with_reducible refine Kd.C_drewN ?_ _) | (with_reducible refine Kd.C_drew ?_))); (case side2 => exact (Kd.R_reads' HO_436002.out).2.1); rintro e w78 ⟨rfl, hb⟩; have n0_ := Aside0.mk (Kd.R_below (by (with_reducible repeat (first | apply Kd.R_alloc | apply Kd.R_drewN | apply Kd.R_drew)); exact HO_436002.out) hb); have n1_ := Aside0.mk (Kd.R_below (by (with_reducible repeat (first | apply Kd.R_alloc | apply Kd.R_drewN | apply Kd.R_drew)); exact HO446.out) hb); have n2_ := Aside0.mk (Kd.R_below (by (with_reducible repeat (first | apply Kd.R_alloc | apply Kd.R_drewN | apply Kd.R_drew)); exact HO449.out) hb); have n3_ := Aside0.mk (Kd.R_below (by (with_reducible repeat (first | apply Kd.R_alloc | apply Kd.R_drewN | apply Kd.R_drew)); exact HO452.out) hb); have n4_ := Aside0.mk (blk_below (g := gb435) (o := .cells #[.string t430, .int .i64 t431, .slice Ao8 t432.length co8] 24 (0, 0)) (by (with_reducible repeat (first | refine blk_drewN ?_ _ | refine blk_drew ?_ | refine blk_alloc ?_ _)); exact BK435.out) hb); have n5_ := Aside0.mk (below_step (by repeat (first | (with_reducible first | exact HB.out | apply below_alloc | apply pw_below_drewN | apply below_drew1 | refine below_set ?_ GE435.out) | exact HB.out)) hb); clear HO_436002; clear HO446; clear HO449; clear HO452; clear BK435; clear HB; have HO_436002 := n0_; have HO446 := n1_; have HO449 := n2_; have HO452 := n3_; have BK435 := n4_; have HB := n5_; clear n0_ n1_ n2_ n3_ n4_ n5_; (try clear hb); (try clear hb2); (try clear hk); (try clear hi)))
                  go_meet
                  case rel => exact ⟨_, (false), (by first | rfl | (simp; done) | (simp [*]; done)), H', ⟨by have := HJ3.out; first | omega | exact Nat.le_refl _⟩, ⟨by (with_reducible repeat (first | apply Kd.R_alloc | apply Kd.R_drewN | apply Kd.R_drew)); exact HO_436002.out⟩, ⟨by (with_reducible repeat (first | refine blk_drewN ?_ _ | refine blk_drew ?_ | refine blk_alloc ?_ _)); exact BK435.out⟩, ⟨by repeat (first | (with_reducible first | exact HB.out | apply below_alloc | apply pw_below_drewN | apply below_drew1 | refine below_set ?_ GE435.out) | exact HB.out)⟩⟩
              · rw [if_neg c47] at H
                have c47b0 : (t454 == 1380) = false := beq_eq_false_iff_ne.mpr c47
                have c47b1 : (t454 != 1380) = true := bne_iff_ne.mpr c47
                have H' := Aside0.mk H
                clear H
                have hcz79_0 : wc.cell? ⟨gb435, 0, none⟩ = some (.string t430) := (blk_cell BK435.out 0).trans rfl
                have hcz79_1 : wc.cell? ⟨gb435, 1, none⟩ = some (.int .i64 t431) := (blk_cell BK435.out 1).trans rfl
                have hcz79_2 : wc.cell? ⟨gb435, 2, none⟩ = some (.slice Ao8 t432.length co8) := (blk_cell BK435.out 2).trans rfl
                have hfz79_0 := blk_frozen BK435.out 0
                have hfz79_1 := blk_frozen BK435.out 1
                have hfz79_2 := blk_frozen BK435.out 2
                go_wp2_with (first | (go_at_call 47; (with_reducible refine (zone_Instants.calls t430 t431 _ _ t432 3 750 t444 _ ?side1 ?side2 A41.out).mono ?_); (case side1 => repeat (first | exact (Kd.R_reads' HO_436002.out).2.2 | (with_reducible refine Kd.C_alloc ?_ _) | (with_reducible refine Kd.C_drewN ?_ _) | (with_reducible refine Kd.C_drew ?_))); (case side2 => exact (Kd.R_reads' HO_436002.out).2.1); rintro e w80 ⟨v445, rfl, ho0, hb⟩; have n0_ := Aside0.mk (Kd.R_below (by (with_reducible repeat (first | apply Kd.R_alloc | apply Kd.R_drewN | apply Kd.R_drew)); exact HO_436002.out) hb); have n1_ := Aside0.mk (Kd.R_lower ho0 (below_size (by repeat (first | (with_reducible first | exact HB.out | apply below_alloc | apply pw_below_drewN | apply below_drew1 | refine below_set ?_ GE435.out) | exact HB.out)))); have n2_ := Aside0.mk (blk_below (g := gb435) (o := .cells #[.string t430, .int .i64 t431, .slice Ao8 t432.length co8] 24 (0, 0)) (by (with_reducible repeat (first | refine blk_drewN ?_ _ | refine blk_drew ?_ | refine blk_alloc ?_ _)); exact BK435.out) hb); have n3_ := Aside0.mk (below_step (by repeat (first | (with_reducible first | exact HB.out | apply below_alloc | apply pw_below_drewN | apply below_drew1 | refine below_set ?_ GE435.out) | exact HB.out)) hb); clear HO_436002; clear BK435; clear HB; have HO_436002 := n0_; have HO446 := n1_; have BK435 := n2_; have HB := n3_; clear n0_ n1_ n2_ n3_; (try clear hb); (try clear hb2); (try clear hk); (try clear hi); (try clear ho0); obtain ⟨Ao81, co81, eo81⟩ := Kd.R_slice HO446.out; subst eo81; have hcz82_0 : w80.cell? ⟨gb435, 0, none⟩ = some (.string t430) := (blk_cell BK435.out 0).trans rfl; have hcz82_1 : w80.cell? ⟨gb435, 1, none⟩ = some (.int .i64 t431) := (blk_cell BK435.out 1).trans rfl; have hcz82_2 : w80.cell? ⟨gb435, 2, none⟩ = some (.slice Ao8 t432.length co8) := (blk_cell BK435.out 2).trans rfl; have hfz82_0 := blk_frozen BK435.out 0; have hfz82_1 := blk_frozen BK435.out 1; have hfz82_2 := blk_frozen BK435.out 2) | (go_at_call 47; (with_reducible refine (zone_Instants.calls t430 t431 _ _ t432 13 1370 t447 _ ?side1 ?side2 A43.out).mono ?_); (case side1 => repeat (first | exact (Kd.R_reads' HO_436002.out).2.2 | (with_reducible refine Kd.C_alloc ?_ _) | (with_reducible refine Kd.C_drewN ?_ _) | (with_reducible refine Kd.C_drew ?_))); (case side2 => exact (Kd.R_reads' HO_436002.out).2.1); rintro e w83 ⟨v448, rfl, ho0, hb⟩; have n0_ := Aside0.mk (Kd.R_below (by (with_reducible repeat (first | apply Kd.R_alloc | apply Kd.R_drewN | apply Kd.R_drew)); exact HO_436002.out) hb); have n1_ := Aside0.mk (Kd.R_elder' (by (with_reducible repeat (first | apply Kd.R_alloc | apply Kd.R_drewN | apply Kd.R_drew)); exact HO446.out) (Kd.R_base ho0) hb); have n2_ := Aside0.mk (Kd.R_lower (Kd.R_new' ho0 (Kd.R_lt (by (with_reducible repeat (first | apply Kd.R_alloc | apply Kd.R_drewN | apply Kd.R_drew)); exact HO446.out))) (below_size (by repeat (first | (with_reducible first | exact HB.out | apply below_alloc | apply pw_below_drewN | apply below_drew1 | refine below_set ?_ GE435.out) | exact HB.out)))); have n3_ := Aside0.mk (blk_below (g := gb435) (o := .cells #[.string t430, .int .i64 t431, .slice Ao8 t432.length co8] 24 (0, 0)) (by (with_reducible repeat (first | refine blk_drewN ?_ _ | refine blk_drew ?_ | refine blk_alloc ?_ _)); exact BK435.out) hb); have n4_ := Aside0.mk (below_step (by repeat (first | (with_reducible first | exact HB.out | apply below_alloc | apply pw_below_drewN | apply below_drew1 | refine below_set ?_ GE435.out) | exact HB.out)) hb); clear HO_436002; clear HO446; clear BK435; clear HB; have HO_436002 := n0_; have HO446 := n1_; have HO449 := n2_; have BK435 := n3_; have HB := n4_; clear n0_ n1_ n2_ n3_ n4_; (try clear hb); (try clear hb2); (try clear hk); (try clear hi); (try clear ho0)) | ((with_reducible refine gate_dst (N := 70) rfl ?_); (try (refine gate_guard (by rfl) ?_; dsimp only)); refine Kd.R_lit (Kd.int .i64) _ 3 ?hg (N := 70) ?hd (xs := ([19970, 20030] : List Int)) (inner := [.int .i64 19970, .int .i64 20030]) (ok := fun _ => True) (okp := fun _ => True) ?hr ?hp (fun _ hk => hk) trivial (Below.refl _ _) (Nat.le_refl _) (by simp) ?_; (case hd => rfl); (case hg => rfl); (case hr => first | (go_simp; done) | (go_simp; rfl)); (case hp => exact (Reps.one (show Kd.M (Kd.int .i64) _ _ _ 19970 [.int .i64 19970] from rfl) (Reps.one (show Kd.M (Kd.int .i64) _ _ _ 20030 [.int .i64 20030] from rfl) (Reps.none _ _)))); intro v451 w84 ho85 hb hg_ hnew_; clear hg_ hnew_; (first | rw [← Ny450.out] at ho85 | (simp only [Int.reduceToNat] at ho85; rw [← Ny450.out] at ho85)); have n0_ := Aside0.mk (Kd.R_below (by (with_reducible repeat (first | apply Kd.R_alloc | apply Kd.R_drewN | apply Kd.R_drew)); exact HO_436002.out) hb); have n1_ := Aside0.mk (Kd.R_elder' (by (with_reducible repeat (first | apply Kd.R_alloc | apply Kd.R_drewN | apply Kd.R_drew)); exact HO446.out) (Kd.R_base ho85) hb); have n2_ := Aside0.mk (Kd.R_elder' (by (with_reducible repeat (first | apply Kd.R_alloc | apply Kd.R_drewN | apply Kd.R_drew)); exact HO449.out) (Kd.R_base ho85) hb); have n3_ := Aside0.mk (Kd.R_lower (Kd.R_new' (Kd.R_new' ho85 (Kd.R_lt (by (with_reducible repeat (first | apply Kd.R_alloc | apply Kd.R_drewN | apply Kd.R_drew)); exact HO446.out))) (Kd.R_lt (by (with_reducible repeat (first | apply Kd.R_alloc | apply Kd.R_drewN | apply Kd.R_drew)); exact HO449.out))) (below_size (by repeat (first | (with_reducible first | exact HB.out | apply below_alloc | apply pw_below_drewN | apply below_drew1 | refine below_set ?_ GE435.out) | exact HB.out)))); have n4_ := Aside0.mk (blk_below (g := gb435) (o := .cells #[.string t430, .int .i64 t431, .slice Ao8 t432.length co8] 24 (0, 0)) (by (with_reducible repeat (first | refine blk_drewN ?_ _ | refine blk_drew ?_ | refine blk_alloc ?_ _)); exact BK435.out) hb); have n5_ := Aside0.mk (below_step (by repeat (first | (with_reducible first | exact HB.out | apply below_alloc | apply pw_below_drewN | apply below_drew1 | refine below_set ?_ GE435.out) | exact HB.out)) hb); clear HO_436002; clear HO446; clear HO449; clear BK435; clear HB; have HO_436002 := n0_; have HO446 := n1_; have HO449 := n2_; have HO452 := n3_; have BK435 := n4_; have HB := n5_; clear n0_ n1_ n2_ n3_ n4_ n5_; clear hb ho85; obtain ⟨Ao86, co86, eo86⟩ := Kd.R_slice HO449.out; subst eo86; obtain ⟨Ao87, co87, eo87⟩ := Kd.R_slice HO452.out; subst eo87) | (go_at_call 46; (with_reducible refine (wageofficeref03_Ints.calls kj3 _ _ t447 _ _ y450 true _ ?side1 ?side2 ?side3 ?side4 A44.out).mono ?_); (case side1 => repeat (first | exact (Kd.R_reads' HO449.out).2.2 | (with_reducible refine Kd.C_alloc ?_ _) | (with_reducible refine Kd.C_drewN ?_ _) | (with_reducible refine Kd.C_drew ?_))); (case side2 => exact (Kd.R_reads' HO449.out).2.1); (case side3 => repeat (first | exact (Kd.R_reads' HO452.out).2.2 | (with_reducible refine Kd.C_alloc ?_ _) | (with_reducible refine Kd.C_drewN ?_ _) | (with_reducible refine Kd.C_drew ?_))); (case side4 => exact (Kd.R_reads' HO452.out).2.1); rintro e w' ⟨rfl, ⟨nd, rfl⟩⟩; have hcz88_0 : w84.cell? ⟨gb435, 0, none⟩ = some (.string t430) := (blk_cell BK435.out 0).trans rfl; have hcz88_1 : w84.cell? ⟨gb435, 1, none⟩ = some (.int .i64 t431) := (blk_cell BK435.out 1).trans rfl; have hcz88_2 : w84.cell? ⟨gb435, 2, none⟩ = some (.slice Ao8 t432.length co8) := (blk_cell BK435.out 2).trans rfl; have hfz88_0 := blk_frozen BK435.out 0; have hfz88_1 := blk_frozen BK435.out 1; have hfz88_2 := blk_frozen BK435.out 2) | (go_at_call 49; (with_reducible refine (zone_Length.calls t430 t431 _ _ t432 3 t454 _ ?side1 ?side2 A46.out).mono ?_); (case side1 => repeat (first | exact (Kd.R_reads' HO_436002.out).2.2 | (with_reducible refine Kd.C_alloc ?_ _) | (with_reducible refine Kd.C_drewN ?_ _) | (with_reducible refine Kd.C_drew ?_))); (case side2 => exact (Kd.R_reads' HO_436002.out).2.1); rintro e w89 ⟨rfl, hb⟩; have n0_ := Aside0.mk (Kd.R_below (by (with_reducible repeat (first | apply Kd.R_alloc | apply Kd.R_drewN | apply Kd.R_drew)); exact HO_436002.out) hb); have n1_ := Aside0.mk (Kd.R_below (by (with_reducible repeat (first | apply Kd.R_alloc | apply Kd.R_drewN | apply Kd.R_drew)); exact HO446.out) hb); have n2_ := Aside0.mk (Kd.R_below (by (with_reducible repeat (first | apply Kd.R_alloc | apply Kd.R_drewN | apply Kd.R_drew)); exact HO449.out) hb); have n3_ := Aside0.mk (Kd.R_below (by (with_reducible repeat (first | apply Kd.R_alloc | apply Kd.R_drewN | apply Kd.R_drew)); exact HO452.out) hb); have n4_ := Aside0.mk (blk_below (g := gb435) (o := .cells #[.string t430, .int .i64 t431, .slice Ao8 t432.length co8] 24 (0, 0)) (by (with_reducible repeat (first | refine blk_drewN ?_ _ | refine blk_drew ?_ | refine blk_alloc ?_ _)); exact BK435.out) hb); have n5_ := Aside0.mk (below_step (by repeat (first | (with_reducible first | exact HB.out | apply below_alloc | apply pw_below_drewN | apply below_drew1 | refine below_set ?_ GE435.out) | exact HB.out)) hb); clear HO_436002; clear HO446; clear HO449; clear HO452; clear BK435; clear HB; have HO_436002 := n0_; have HO446 := n1_; have HO449 := n2_; have HO452 := n3_; have BK435 := n4_; have HB := n5_; clear n0_ n1_ n2_ n3_ n4_ n5_; (try clear hb); (try clear hb2); (try clear hk); (try clear hi)))
                go_meet
                case rel => exact ⟨_, (false), (by first | rfl | (simp; done) | (simp [*]; done)), H', ⟨by have := HJ3.out; first | omega | exact Nat.le_refl _⟩, ⟨by (with_reducible repeat (first | apply Kd.R_alloc | apply Kd.R_drewN | apply Kd.R_drew)); exact HO_436002.out⟩, ⟨by (with_reducible repeat (first | refine blk_drewN ?_ _ | refine blk_drew ?_ | refine blk_alloc ?_ _)); exact BK435.out⟩, ⟨by repeat (first | (with_reducible first | exact HB.out | apply below_alloc | apply pw_below_drewN | apply below_drew1 | refine below_set ?_ GE435.out) | exact HB.out)⟩⟩
            · replace c45 := Bool.eq_false_iff.mpr c45
              subst c45
              have H1 : (wageofficelaw03_head.j1 kj3 false t430 t431 t432) = some r := by rw [if_neg (show ¬ (false = true) by decide)] at H; exact H
              clear H
              have H := H1
              clear H1
              have H' := Aside0.mk H
              clear H
              have hcz90_0 : wc.cell? ⟨gb435, 0, none⟩ = some (.string t430) := (blk_cell BK435.out 0).trans rfl
              have hcz90_1 : wc.cell? ⟨gb435, 1, none⟩ = some (.int .i64 t431) := (blk_cell BK435.out 1).trans rfl
              have hcz90_2 : wc.cell? ⟨gb435, 2, none⟩ = some (.slice Ao8 t432.length co8) := (blk_cell BK435.out 2).trans rfl
              have hfz90_0 := blk_frozen BK435.out 0
              have hfz90_1 := blk_frozen BK435.out 1
              have hfz90_2 := blk_frozen BK435.out 2
              go_wp2_with (first | (go_at_call 47; (with_reducible refine (zone_Instants.calls t430 t431 _ _ t432 3 750 t444 _ ?side1 ?side2 A41.out).mono ?_); (case side1 => repeat (first | exact (Kd.R_reads' HO_436002.out).2.2 | (with_reducible refine Kd.C_alloc ?_ _) | (with_reducible refine Kd.C_drewN ?_ _) | (with_reducible refine Kd.C_drew ?_))); (case side2 => exact (Kd.R_reads' HO_436002.out).2.1); rintro e w91 ⟨v445, rfl, ho0, hb⟩; have n0_ := Aside0.mk (Kd.R_below (by (with_reducible repeat (first | apply Kd.R_alloc | apply Kd.R_drewN | apply Kd.R_drew)); exact HO_436002.out) hb); have n1_ := Aside0.mk (Kd.R_lower ho0 (below_size (by repeat (first | (with_reducible first | exact HB.out | apply below_alloc | apply pw_below_drewN | apply below_drew1 | refine below_set ?_ GE435.out) | exact HB.out)))); have n2_ := Aside0.mk (blk_below (g := gb435) (o := .cells #[.string t430, .int .i64 t431, .slice Ao8 t432.length co8] 24 (0, 0)) (by (with_reducible repeat (first | refine blk_drewN ?_ _ | refine blk_drew ?_ | refine blk_alloc ?_ _)); exact BK435.out) hb); have n3_ := Aside0.mk (below_step (by repeat (first | (with_reducible first | exact HB.out | apply below_alloc | apply pw_below_drewN | apply below_drew1 | refine below_set ?_ GE435.out) | exact HB.out)) hb); clear HO_436002; clear BK435; clear HB; have HO_436002 := n0_; have HO446 := n1_; have BK435 := n2_; have HB := n3_; clear n0_ n1_ n2_ n3_; (try clear hb); (try clear hb2); (try clear hk); (try clear hi); (try clear ho0); obtain ⟨Ao92, co92, eo92⟩ := Kd.R_slice HO446.out; subst eo92; have hcz93_0 : w91.cell? ⟨gb435, 0, none⟩ = some (.string t430) := (blk_cell BK435.out 0).trans rfl; have hcz93_1 : w91.cell? ⟨gb435, 1, none⟩ = some (.int .i64 t431) := (blk_cell BK435.out 1).trans rfl; have hcz93_2 : w91.cell? ⟨gb435, 2, none⟩ = some (.slice Ao8 t432.length co8) := (blk_cell BK435.out 2).trans rfl; have hfz93_0 := blk_frozen BK435.out 0; have hfz93_1 := blk_frozen BK435.out 1; have hfz93_2 := blk_frozen BK435.out 2) | (go_at_call 47; (with_reducible refine (zone_Instants.calls t430 t431 _ _ t432 13 1370 t447 _ ?side1 ?side2 A43.out).mono ?_); (case side1 => repeat (first | exact (Kd.R_reads' HO_436002.out).2.2 | (with_reducible refine Kd.C_alloc ?_ _) | (with_reducible refine Kd.C_drewN ?_ _) | (with_reducible refine Kd.C_drew ?_))); (case side2 => exact (Kd.R_reads' HO_436002.out).2.1); rintro e w94 ⟨v448, rfl, ho0, hb⟩; have n0_ := Aside0.mk (Kd.R_below (by (with_reducible repeat (first | apply Kd.R_alloc | apply Kd.R_drewN | apply Kd.R_drew)); exact HO_436002.out) hb); have n1_ := Aside0.mk (Kd.R_elder' (by (with_reducible repeat (first | apply Kd.R_alloc | apply Kd.R_drewN | apply Kd.R_drew)); exact HO446.out) (Kd.R_base ho0) hb); have n2_ := Aside0.mk (Kd.R_lower (Kd.R_new' ho0 (Kd.R_lt (by (with_reducible repeat (first | apply Kd.R_alloc | apply Kd.R_drewN | apply Kd.R_drew)); exact HO446.out))) (below_size (by repeat (first | (with_reducible first | exact HB.out | apply below_alloc | apply pw_below_drewN | apply below_drew1 | refine below_set ?_ GE435.out) | exact HB.out)))); have n3_ := Aside0.mk (blk_below (g := gb435) (o := .cells #[.string t430, .int .i64 t431, .slice Ao8 t432.length co8] 24 (0, 0)) (by (with_reducible repeat (first | refine blk_drewN ?_ _ | refine blk_drew ?_ | refine blk_alloc ?_ _)); exact BK435.out) hb); have n4_ := Aside0.mk (below_step (by repeat (first | (with_reducible first | exact HB.out | apply below_alloc | apply pw_below_drewN | apply below_drew1 | refine below_set ?_ GE435.out) | exact HB.out)) hb); clear HO_436002; clear HO446; clear BK435; clear HB; have HO_436002 := n0_; have HO446 := n1_; have HO449 := n2_; have BK435 := n3_; have HB := n4_; clear n0_ n1_ n2_ n3_ n4_; (try clear hb); (try clear hb2); (try clear hk); (try clear hi); (try clear ho0)) | ((with_reducible refine gate_dst (N := 70) rfl ?_); (try (refine gate_guard (by rfl) ?_; dsimp only)); refine Kd.R_lit (Kd.int .i64) _ 3 ?hg (N := 70) ?hd (xs := ([19970, 20030] : List Int)) (inner := [.int .i64 19970, .int .i64 20030]) (ok := fun _ => True) (okp := fun _ => True) ?hr ?hp (fun _ hk => hk) trivial (Below.refl _ _) (Nat.le_refl _) (by simp) ?_; (case hd => rfl); (case hg => rfl); (case hr => first | (go_simp; done) | (go_simp; rfl)); (case hp => exact (Reps.one (show Kd.M (Kd.int .i64) _ _ _ 19970 [.int .i64 19970] from rfl) (Reps.one (show Kd.M (Kd.int .i64) _ _ _ 20030 [.int .i64 20030] from rfl) (Reps.none _ _)))); intro v451 w95 ho96 hb hg_ hnew_; clear hg_ hnew_; (first | rw [← Ny450.out] at ho96 | (simp only [Int.reduceToNat] at ho96; rw [← Ny450.out] at ho96)); have n0_ := Aside0.mk (Kd.R_below (by (with_reducible repeat (first | apply Kd.R_alloc | apply Kd.R_drewN | apply Kd.R_drew)); exact HO_436002.out) hb); have n1_ := Aside0.mk (Kd.R_elder' (by (with_reducible repeat (first | apply Kd.R_alloc | apply Kd.R_drewN | apply Kd.R_drew)); exact HO446.out) (Kd.R_base ho96) hb); have n2_ := Aside0.mk (Kd.R_elder' (by (with_reducible repeat (first | apply Kd.R_alloc | apply Kd.R_drewN | apply Kd.R_drew)); exact HO449.out) (Kd.R_base ho96) hb); have n3_ := Aside0.mk (Kd.R_lower (Kd.R_new' (Kd.R_new' ho96 (Kd.R_lt (by (with_reducible repeat (first | apply Kd.R_alloc | apply Kd.R_drewN | apply Kd.R_drew)); exact HO446.out))) (Kd.R_lt (by (with_reducible repeat (first | apply Kd.R_alloc | apply Kd.R_drewN | apply Kd.R_drew)); exact HO449.out))) (below_size (by repeat (first | (with_reducible first | exact HB.out | apply below_alloc | apply pw_below_drewN | apply below_drew1 | refine below_set ?_ GE435.out) | exact HB.out)))); have n4_ := Aside0.mk (blk_below (g := gb435) (o := .cells #[.string t430, .int .i64 t431, .slice Ao8 t432.length co8] 24 (0, 0)) (by (with_reducible repeat (first | refine blk_drewN ?_ _ | refine blk_drew ?_ | refine blk_alloc ?_ _)); exact BK435.out) hb); have n5_ := Aside0.mk (below_step (by repeat (first | (with_reducible first | exact HB.out | apply below_alloc | apply pw_below_drewN | apply below_drew1 | refine below_set ?_ GE435.out) | exact HB.out)) hb); clear HO_436002; clear HO446; clear HO449; clear BK435; clear HB; have HO_436002 := n0_; have HO446 := n1_; have HO449 := n2_; have HO452 := n3_; have BK435 := n4_; have HB := n5_; clear n0_ n1_ n2_ n3_ n4_ n5_; clear hb ho96; obtain ⟨Ao97, co97, eo97⟩ := Kd.R_slice HO449.out; subst eo97; obtain ⟨Ao98, co98, eo98⟩ := Kd.R_slice HO452.out; subst eo98) | (go_at_call 46; (with_reducible refine (wageofficeref03_Ints.calls kj3 _ _ t447 _ _ y450 false _ ?side1 ?side2 ?side3 ?side4 A44.out).mono ?_); (case side1 => repeat (first | exact (Kd.R_reads' HO449.out).2.2 | (with_reducible refine Kd.C_alloc ?_ _) | (with_reducible refine Kd.C_drewN ?_ _) | (with_reducible refine Kd.C_drew ?_))); (case side2 => exact (Kd.R_reads' HO449.out).2.1); (case side3 => repeat (first | exact (Kd.R_reads' HO452.out).2.2 | (with_reducible refine Kd.C_alloc ?_ _) | (with_reducible refine Kd.C_drewN ?_ _) | (with_reducible refine Kd.C_drew ?_))); (case side4 => exact (Kd.R_reads' HO452.out).2.1); rintro e w' ⟨rfl, ⟨nd, rfl⟩⟩))
              go_meet
              case rel => exact ⟨_, (false), (by first | rfl | (simp; done) | (simp [*]; done)), H', ⟨by have := HJ3.out; first | omega | exact Nat.le_refl _⟩, ⟨by (with_reducible repeat (first | apply Kd.R_alloc | apply Kd.R_drewN | apply Kd.R_drew)); exact HO_436002.out⟩, ⟨by (with_reducible repeat (first | refine blk_drewN ?_ _ | refine blk_drew ?_ | refine blk_alloc ?_ _)); exact BK435.out⟩, ⟨by repeat (first | (with_reducible first | exact HB.out | apply below_alloc | apply pw_below_drewN | apply below_drew1 | refine below_set ?_ GE435.out) | exact HB.out)⟩⟩
          · rw [if_neg c42] at H
            have c42b0 : ((t444.length : Int) == 0) = false := beq_eq_false_iff_ne.mpr c42
            have c42b1 : ((t444.length : Int) != 0) = true := bne_iff_ne.mpr c42
            have c42b2 : ¬ (t444 = []) := fun h_ => c42 (by rw [h_]; rfl)
            (first | rw [c42b0] | (simp only [i64_w, i32_w]; rw [c42b0]) | rw [c42b1] | skip)
            have H' := Aside0.mk H
            clear H
            have hcz99_0 : wc.cell? ⟨gb435, 0, none⟩ = some (.string t430) := (blk_cell BK435.out 0).trans rfl
            have hcz99_1 : wc.cell? ⟨gb435, 1, none⟩ = some (.int .i64 t431) := (blk_cell BK435.out 1).trans rfl
            have hcz99_2 : wc.cell? ⟨gb435, 2, none⟩ = some (.slice Ao8 t432.length co8) := (blk_cell BK435.out 2).trans rfl
            have hfz99_0 := blk_frozen BK435.out 0
            have hfz99_1 := blk_frozen BK435.out 1
            have hfz99_2 := blk_frozen BK435.out 2
            go_wp2_with (first | (go_at_call 47; (with_reducible refine (zone_Instants.calls t430 t431 _ _ t432 3 750 t444 _ ?side1 ?side2 A41.out).mono ?_); (case side1 => repeat (first | exact (Kd.R_reads' HO_436002.out).2.2 | (with_reducible refine Kd.C_alloc ?_ _) | (with_reducible refine Kd.C_drewN ?_ _) | (with_reducible refine Kd.C_drew ?_))); (case side2 => exact (Kd.R_reads' HO_436002.out).2.1); rintro e w100 ⟨v445, rfl, ho0, hb⟩; have n0_ := Aside0.mk (Kd.R_below (by (with_reducible repeat (first | apply Kd.R_alloc | apply Kd.R_drewN | apply Kd.R_drew)); exact HO_436002.out) hb); have n1_ := Aside0.mk (Kd.R_lower ho0 (below_size (by repeat (first | (with_reducible first | exact HB.out | apply below_alloc | apply pw_below_drewN | apply below_drew1 | refine below_set ?_ GE435.out) | exact HB.out)))); have n2_ := Aside0.mk (blk_below (g := gb435) (o := .cells #[.string t430, .int .i64 t431, .slice Ao8 t432.length co8] 24 (0, 0)) (by (with_reducible repeat (first | refine blk_drewN ?_ _ | refine blk_drew ?_ | refine blk_alloc ?_ _)); exact BK435.out) hb); have n3_ := Aside0.mk (below_step (by repeat (first | (with_reducible first | exact HB.out | apply below_alloc | apply pw_below_drewN | apply below_drew1 | refine below_set ?_ GE435.out) | exact HB.out)) hb); clear HO_436002; clear BK435; clear HB; have HO_436002 := n0_; have HO446 := n1_; have BK435 := n2_; have HB := n3_; clear n0_ n1_ n2_ n3_; (try clear hb); (try clear hb2); (try clear hk); (try clear hi); (try clear ho0); obtain ⟨Ao101, co101, eo101⟩ := Kd.R_slice HO446.out; subst eo101))
            go_meet
            case rel => exact ⟨_, (false), (by first | rfl | (simp; done) | (simp [*]; done)), H', ⟨by have := HJ3.out; first | omega | exact Nat.le_refl _⟩, ⟨by (with_reducible repeat (first | apply Kd.R_alloc | apply Kd.R_drewN | apply Kd.R_drew)); exact HO_436002.out⟩, ⟨by (with_reducible repeat (first | refine blk_drewN ?_ _ | refine blk_drew ?_ | refine blk_alloc ?_ _)); exact BK435.out⟩, ⟨by repeat (first | (with_reducible first | exact HB.out | apply below_alloc | apply pw_below_drewN | apply below_drew1 | refine below_set ?_ GE435.out) | exact HB.out)⟩⟩
        · replace c40 := Bool.eq_false_iff.mpr c40
          subst c40
          have H1 : (wageofficelaw03_head.j1 kj3 false t430 t431 t432) = some r := by rw [if_neg (show ¬ (false = true) by decide)] at H; exact H
          clear H
          have H := H1
          clear H1
          have H' := Aside0.mk H
          clear H
          go_wp2
          go_meet
          case rel => exact ⟨_, (false), (by first | rfl | (simp; done) | (simp [*]; done)), H', ⟨by have := HJ3.out; first | omega | exact Nat.le_refl _⟩, ⟨by (with_reducible repeat (first | apply Kd.R_alloc | apply Kd.R_drewN | apply Kd.R_drew)); exact HO_436002.out⟩, ⟨by (with_reducible repeat (first | refine blk_drewN ?_ _ | refine blk_drew ?_ | refine blk_alloc ?_ _)); exact BK435.out⟩, ⟨by repeat (first | (with_reducible first | exact HB.out | apply below_alloc | apply pw_below_drewN | apply below_drew1 | refine below_set ?_ GE435.out) | exact HB.out)⟩⟩
      case rest =>
        clear HC39
        try clear c1
        try clear p2
        try clear c3
        try clear c4
        try clear c5
        try clear c13
        try clear c14
        try clear c14b0
        try clear c14b1
        try clear c15
        try clear c15b0
        try clear c15b1
        try clear c16
        try clear c16b0
        try clear c16b1
        try clear c17
        try clear c17b0
        try clear c17b1
        try clear c18
        try clear c18b0
        try clear c18b1
        try clear c19
        try clear c19b0
        try clear c19b1
        try clear c33
        try clear c36
        try clear c38
        try clear c40
        try clear c42
        try clear c42b0
        try clear c42b1
        try clear c42b2
        try clear c45
        try clear c47
        try clear c47b0
        try clear c47b1
        try clear c49
        try clear c49b0
        try clear c49b1
        try clear c58
        try clear hcz10_0
        try clear hcz10_1
        try clear hcz10_2
        try clear hcz21_0
        try clear hcz21_1
        try clear hcz21_2
        try clear hcz23_0
        try clear hcz23_1
        try clear hcz23_2
        try clear hcz25_0
        try clear hcz25_1
        try clear hcz25_2
        try clear hcz27_0
        try clear hcz27_1
        try clear hcz27_2
        try clear hcz29_0
        try clear hcz29_1
        try clear hcz29_2
        try clear hcz31_0
        try clear hcz31_1
        try clear hcz31_2
        try clear hcz33_0
        try clear hcz33_1
        try clear hcz33_2
        try clear hcz35_0
        try clear hcz35_1
        try clear hcz35_2
        try clear hcz37_0
        try clear hcz37_1
        try clear hcz37_2
        try clear hcz51_0
        try clear hcz51_1
        try clear hcz51_2
        try clear hcz54_0
        try clear hcz54_1
        try clear hcz54_2
        try clear hcz60_0
        try clear hcz60_1
        try clear hcz60_2
        try clear hcz62_0
        try clear hcz62_1
        try clear hcz62_2
        try clear hcz64_0
        try clear hcz64_1
        try clear hcz64_2
        try clear hcz66_0
        try clear hcz66_1
        try clear hcz66_2
        try clear hcz69_0
        try clear hcz69_1
        try clear hcz69_2
        try clear hcz75_0
        try clear hcz75_1
        try clear hcz75_2
        try clear hcz77_0
        try clear hcz77_1
        try clear hcz77_2
        try clear hcz79_0
        try clear hcz79_1
        try clear hcz79_2
        try clear hcz7_0
        try clear hcz7_1
        try clear hcz7_2
        try clear hcz82_0
        try clear hcz82_1
        try clear hcz82_2
        try clear hcz88_0
        try clear hcz88_1
        try clear hcz88_2
        try clear hcz90_0
        try clear hcz90_1
        try clear hcz90_2
        try clear hcz93_0
        try clear hcz93_1
        try clear hcz93_2
        try clear hcz99_0
        try clear hcz99_1
        try clear hcz99_2
        try clear hfz10_0
        try clear hfz10_1
        try clear hfz10_2
        try clear hfz21_0
        try clear hfz21_1
        try clear hfz21_2
        try clear hfz23_0
        try clear hfz23_1
        try clear hfz23_2
        try clear hfz25_0
        try clear hfz25_1
        try clear hfz25_2
        try clear hfz27_0
        try clear hfz27_1
        try clear hfz27_2
        try clear hfz29_0
        try clear hfz29_1
        try clear hfz29_2
        try clear hfz31_0
        try clear hfz31_1
        try clear hfz31_2
        try clear hfz33_0
        try clear hfz33_1
        try clear hfz33_2
        try clear hfz35_0
        try clear hfz35_1
        try clear hfz35_2
        try clear hfz37_0
        try clear hfz37_1
        try clear hfz37_2
        try clear hfz51_0
        try clear hfz51_1
        try clear hfz51_2
        try clear hfz54_0
        try clear hfz54_1
        try clear hfz54_2
        try clear hfz60_0
        try clear hfz60_1
        try clear hfz60_2
        try clear hfz62_0
        try clear hfz62_1
        try clear hfz62_2
        try clear hfz64_0
        try clear hfz64_1
        try clear hfz64_2
        try clear hfz66_0
        try clear hfz66_1
        try clear hfz66_2
        try clear hfz69_0
        try clear hfz69_1
        try clear hfz69_2
        try clear hfz75_0
        try clear hfz75_1
        try clear hfz75_2
        try clear hfz77_0
        try clear hfz77_1
        try clear hfz77_2
        try clear hfz79_0
        try clear hfz79_1
        try clear hfz79_2
        try clear hfz7_0
        try clear hfz7_1
        try clear hfz7_2
        try clear hfz82_0
        try clear hfz82_1
        try clear hfz82_2
        try clear hfz88_0
        try clear hfz88_1
        try clear hfz88_2
        try clear hfz90_0
        try clear hfz90_1
        try clear hfz90_2
        try clear hfz93_0
        try clear hfz93_1
        try clear hfz93_2
        try clear hfz99_0
        try clear hfz99_1
        try clear hfz99_2
        try clear p2
        obtain ⟨kq, x8_38, rfl, HA, HJ38, HO_436002, BK435, HB⟩ := hcut
        cases kq with
        | zero => exact absurd HA.out (by simp [wageofficelaw03_head.j1])
        | succ kj38 =>
          have H := HA.out
          clear HA
          simp only [wageofficelaw03_head.j1] at H
          replace H := Option.bind_eq_some_iff.mp H
          obtain ⟨⟨t457, t460⟩, A1020, H⟩ := H
          replace H : ((zone_Window.f t430 t431 t432 4200 5800 1380 360).bind fun bt461 => ((zone_Local.f kj38 t430 t431 t432 (-1)).bind fun bt463 => (if x8_38 = true then (if t460 = 0 then ((wageofficeref03_Same.f kj38 t457 (([(⟨2, 60⟩ : S46), (⟨3, 1380⟩ : S46), (⟨4, 160⟩ : S46)] : List (S46)))).bind fun t469 => (if t469 = true then (if bt461.2 = 0 then (if bt461.1 = 640 then (some (bt463.2.2 == 1)) else (none)) else (none)) else (none))) else (none)) else (none)))) = some r := H
          have A102 := Aside0.mk A1020
          clear A1020
          replace H := Option.bind_eq_some_iff.mp H
          obtain ⟨⟨t461, t462⟩, A1030, H⟩ := H
          replace H : ((zone_Local.f kj38 t430 t431 t432 (-1)).bind fun bt463 => (if x8_38 = true then (if t460 = 0 then ((wageofficeref03_Same.f kj38 t457 (([(⟨2, 60⟩ : S46), (⟨3, 1380⟩ : S46), (⟨4, 160⟩ : S46)] : List (S46)))).bind fun t469 => (if t469 = true then (if t462 = 0 then (if t461 = 640 then (some (bt463.2.2 == 1)) else (none)) else (none)) else (none))) else (none)) else (none))) = some r := H
          have A103 := Aside0.mk A1030
          clear A1030
          replace H := Option.bind_eq_some_iff.mp H
          obtain ⟨⟨t463, t464, t465⟩, A1040, H⟩ := H
          replace H : (if x8_38 = true then (if t460 = 0 then ((wageofficeref03_Same.f kj38 t457 (([(⟨2, 60⟩ : S46), (⟨3, 1380⟩ : S46), (⟨4, 160⟩ : S46)] : List (S46)))).bind fun t469 => (if t469 = true then (if t462 = 0 then (if t461 = 640 then (some (t465 == 1)) else (none)) else (none)) else (none))) else (none)) else (none)) = some r := H
          have A104 := Aside0.mk A1040
          clear A1040
          by_cases c105 : x8_38 = true
          · subst c105
            have H1 : (if t460 = 0 then ((wageofficeref03_Same.f kj38 t457 (([(⟨2, 60⟩ : S46), (⟨3, 1380⟩ : S46), (⟨4, 160⟩ : S46)] : List (S46)))).bind fun t469 => (if t469 = true then (if t462 = 0 then (if t461 = 640 then (some (t465 == 1)) else (none)) else (none)) else (none))) else (none)) = some r := by rw [if_pos rfl] at H; exact H
            clear H
            have H := H1
            clear H1
            by_cases c106 : t460 = 0
            · rw [if_pos c106] at H
              have c106b0 : (t460 == 0) = true := beq_iff_eq.mpr c106
              have c106b1 : (t460 != 0) = false := bne_eq_false_iff_eq.mpr c106
              clear c106
              obtain ⟨y466, hy466⟩ : ∃ y_ : List (S46), y_ = (([(⟨2, 60⟩ : S46), (⟨3, 1380⟩ : S46), (⟨4, 160⟩ : S46)] : List (S46))) := ⟨_, rfl⟩
              replace H : ((wageofficeref03_Same.f kj38 t457 y466).bind fun t469 => (if t469 = true then (if t462 = 0 then (if t461 = 640 then (some (t465 == 1)) else (none)) else (none)) else (none))) = some r := by first | (rw [hy466]; with_reducible exact H) | (have H2_ := (Option.bind_some _ _).symm.trans H; rw [hy466]; with_reducible exact H2_) | (have H2_ := (Option.bind_some _ _).symm.trans H; with_reducible exact H2_) | with_reducible exact H | (rw [hy466]; exact H) | exact H
              have Ny466 := Aside0.mk hy466
              clear hy466
              replace H := Option.bind_eq_some_iff.mp H
              obtain ⟨t469, A1070, H⟩ := H
              replace H : (if t469 = true then (if t462 = 0 then (if t461 = 640 then (some (t465 == 1)) else (none)) else (none)) else (none)) = some r := H
              have A107 := Aside0.mk A1070
              clear A1070
              by_cases c108 : t469 = true
              · subst c108
                have H1 : (if t462 = 0 then (if t461 = 640 then (some (t465 == 1)) else (none)) else (none)) = some r := by rw [if_pos rfl] at H; exact H
                clear H
                have H := H1
                clear H1
                by_cases c109 : t462 = 0
                · rw [if_pos c109] at H
                  have c109b0 : (t462 == 0) = true := beq_iff_eq.mpr c109
                  have c109b1 : (t462 != 0) = false := bne_eq_false_iff_eq.mpr c109
                  clear c109
                  by_cases c110 : t461 = 640
                  · rw [if_pos c110] at H
                    have c110b0 : (t461 == 640) = true := beq_iff_eq.mpr c110
                    have c110b1 : (t461 != 640) = false := bne_eq_false_iff_eq.mpr c110
                    clear c110
                    obtain rfl := Option.some.inj H
                    have hcz111_0 : wc.cell? ⟨gb435, 0, none⟩ = some (.string t430) := (blk_cell BK435.out 0).trans rfl
                    have hcz111_1 : wc.cell? ⟨gb435, 1, none⟩ = some (.int .i64 t431) := (blk_cell BK435.out 1).trans rfl
                    have hcz111_2 : wc.cell? ⟨gb435, 2, none⟩ = some (.slice Ao8 t432.length co8) := (blk_cell BK435.out 2).trans rfl
                    have hfz111_0 := blk_frozen BK435.out 0
                    have hfz111_1 := blk_frozen BK435.out 1
                    have hfz111_2 := blk_frozen BK435.out 2
                    go_wp2_with (first | ((with_reducible refine gate_callee (f := 42) rfl ?_); refine goesL_ (some 90) rfl rfl Try.func42 (by kernel_rfl) rfl #[.agg #[.string t430, .int .i64 t431, .slice Ao8 t432.length co8], .int .i64 4200, .int .i64 5800] rfl (by (try simp only [List.map_toArray, List.map_cons, List.map_nil]); first | done | rfl | (simp only [List.length_drop, List.length_take]; rfl)) ?_; (with_reducible refine (zone_Split.calls t430 t431 _ _ t432 4200 5800 t457 t460 _ ?side1 ?side2 A102.out).mono ?_); (case side1 => repeat (first | exact (Kd.R_reads' HO_436002.out).2.2 | (with_reducible refine Kd.C_alloc ?_ _) | (with_reducible refine Kd.C_drewN ?_ _) | (with_reducible refine Kd.C_drew ?_))); (case side2 => exact (Kd.R_reads' HO_436002.out).2.1); rintro e w112 ⟨v458, rfl, ho0, hb⟩; refine ⟨_, rfl, ?_⟩; have n0_ := Aside0.mk (Kd.R_below (by (with_reducible repeat (first | apply Kd.R_alloc | apply Kd.R_drewN | apply Kd.R_drew)); exact HO_436002.out) hb); have n1_ := Aside0.mk (Kd.R_lower ho0 (below_size (by repeat (first | (with_reducible first | exact HB.out | apply below_alloc | apply pw_below_drewN | apply below_drew1 | refine below_set ?_ GE435.out) | exact HB.out)))); have n2_ := Aside0.mk (blk_below (g := gb435) (o := .cells #[.string t430, .int .i64 t431, .slice Ao8 t432.length co8] 24 (0, 0)) (by (with_reducible repeat (first | refine blk_drewN ?_ _ | refine blk_drew ?_ | refine blk_alloc ?_ _)); exact BK435.out) hb); have n3_ := Aside0.mk (below_step (by repeat (first | (with_reducible first | exact HB.out | apply below_alloc | apply pw_below_drewN | apply below_drew1 | refine below_set ?_ GE435.out) | exact HB.out)) hb); clear HO_436002; clear BK435; clear HB; have HO_436002 := n0_; have HO459 := n1_; have BK435 := n2_; have HB := n3_; clear n0_ n1_ n2_ n3_; (try clear hb); (try clear hb2); (try clear hk); (try clear hi); (try clear ho0); have hcz113_0 : w112.cell? ⟨gb435, 0, none⟩ = some (.string t430) := (blk_cell BK435.out 0).trans rfl; have hcz113_1 : w112.cell? ⟨gb435, 1, none⟩ = some (.int .i64 t431) := (blk_cell BK435.out 1).trans rfl; have hcz113_2 : w112.cell? ⟨gb435, 2, none⟩ = some (.slice Ao8 t432.length co8) := (blk_cell BK435.out 2).trans rfl; have hfz113_0 := blk_frozen BK435.out 0; have hfz113_1 := blk_frozen BK435.out 1; have hfz113_2 := blk_frozen BK435.out 2) | ((with_reducible refine gate_callee (f := 44) rfl ?_); refine goesL_ (some 96) rfl rfl Try.func44 (by kernel_rfl) rfl #[.agg #[.string t430, .int .i64 t431, .slice Ao8 t432.length co8], .int .i64 4200, .int .i64 5800, .agg #[.int .i64 1380, .int .i64 360]] rfl (by (try simp only [List.map_toArray, List.map_cons, List.map_nil]); first | done | rfl | (simp only [List.length_drop, List.length_take]; rfl)) ?_; (with_reducible refine (zone_Window.calls t430 t431 _ _ t432 4200 5800 1380 360 t461 t462 _ ?side1 ?side2 A103.out).mono ?_); (case side1 => repeat (first | exact (Kd.R_reads' HO_436002.out).2.2 | (with_reducible refine Kd.C_alloc ?_ _) | (with_reducible refine Kd.C_drewN ?_ _) | (with_reducible refine Kd.C_drew ?_))); (case side2 => exact (Kd.R_reads' HO_436002.out).2.1); rintro e w114 ⟨rfl, hb⟩; refine ⟨_, rfl, ?_⟩; have n0_ := Aside0.mk (Kd.R_below (by (with_reducible repeat (first | apply Kd.R_alloc | apply Kd.R_drewN | apply Kd.R_drew)); exact HO_436002.out) hb); have n1_ := Aside0.mk (Kd.R_below (by (with_reducible repeat (first | apply Kd.R_alloc | apply Kd.R_drewN | apply Kd.R_drew)); exact HO459.out) hb); have n2_ := Aside0.mk (blk_below (g := gb435) (o := .cells #[.string t430, .int .i64 t431, .slice Ao8 t432.length co8] 24 (0, 0)) (by (with_reducible repeat (first | refine blk_drewN ?_ _ | refine blk_drew ?_ | refine blk_alloc ?_ _)); exact BK435.out) hb); have n3_ := Aside0.mk (below_step (by repeat (first | (with_reducible first | exact HB.out | apply below_alloc | apply pw_below_drewN | apply below_drew1 | refine below_set ?_ GE435.out) | exact HB.out)) hb); clear HO_436002; clear HO459; clear BK435; clear HB; have HO_436002 := n0_; have HO459 := n1_; have BK435 := n2_; have HB := n3_; clear n0_ n1_ n2_ n3_; (try clear hb); (try clear hb2); (try clear hk); (try clear hi); have hcz115_0 : w114.cell? ⟨gb435, 0, none⟩ = some (.string t430) := (blk_cell BK435.out 0).trans rfl; have hcz115_1 : w114.cell? ⟨gb435, 1, none⟩ = some (.int .i64 t431) := (blk_cell BK435.out 1).trans rfl; have hcz115_2 : w114.cell? ⟨gb435, 2, none⟩ = some (.slice Ao8 t432.length co8) := (blk_cell BK435.out 2).trans rfl; have hfz115_0 := blk_frozen BK435.out 0; have hfz115_1 := blk_frozen BK435.out 1; have hfz115_2 := blk_frozen BK435.out 2) | ((with_reducible refine gate_callee (f := 36) rfl ?_); refine goesL_ (some 101) rfl rfl Try.func36 (by kernel_rfl) rfl #[.agg #[.string t430, .int .i64 t431, .slice Ao8 t432.length co8], .int .i64 (-1)] rfl (by (try simp only [List.map_toArray, List.map_cons, List.map_nil]); first | done | rfl | (simp only [List.length_drop, List.length_take]; rfl)) ?_; (with_reducible refine (zone_Local.calls kj38 t430 t431 _ _ t432 (-1) t463 t464 t465 _ ?side1 ?side2 A104.out).mono ?_); (case side1 => repeat (first | exact (Kd.R_reads' HO_436002.out).2.2 | (with_reducible refine Kd.C_alloc ?_ _) | (with_reducible refine Kd.C_drewN ?_ _) | (with_reducible refine Kd.C_drew ?_))); (case side2 => exact (Kd.R_reads' HO_436002.out).2.1); rintro e w116 ⟨rfl, hb⟩; refine ⟨_, rfl, ?_⟩; have n0_ := Aside0.mk (Kd.R_below (by (with_reducible repeat (first | apply Kd.R_alloc | apply Kd.R_drewN | apply Kd.R_drew)); exact HO_436002.out) hb); have n1_ := Aside0.mk (Kd.R_below (by (with_reducible repeat (first | apply Kd.R_alloc | apply Kd.R_drewN | apply Kd.R_drew)); exact HO459.out) hb); have n2_ := Aside0.mk (blk_below (g := gb435) (o := .cells #[.string t430, .int .i64 t431, .slice Ao8 t432.length co8] 24 (0, 0)) (by (with_reducible repeat (first | refine blk_drewN ?_ _ | refine blk_drew ?_ | refine blk_alloc ?_ _)); exact BK435.out) hb); have n3_ := Aside0.mk (below_step (by repeat (first | (with_reducible first | exact HB.out | apply below_alloc | apply pw_below_drewN | apply below_drew1 | refine below_set ?_ GE435.out) | exact HB.out)) hb); clear HO_436002; clear HO459; clear BK435; clear HB; have HO_436002 := n0_; have HO459 := n1_; have BK435 := n2_; have HB := n3_; clear n0_ n1_ n2_ n3_; (try clear hb); (try clear hb2); (try clear hk); (try clear hi)) | ((with_reducible refine gate_dst (N := 115) rfl ?_); (try (refine gate_guard (by rfl) ?_; dsimp only)); refine Kd.R_lit k46 _ 46 ?hg (N := 115) ?hd (xs := ([(⟨2, 60⟩ : S46), (⟨3, 1380⟩ : S46), (⟨4, 160⟩ : S46)] : List (S46))) (inner := [.int .i64 2, .int .i64 60, .int .i64 3, .int .i64 1380, .int .i64 4, .int .i64 160]) (ok := fun _ => True) (okp := fun _ => True) ?hr ?hp (fun _ hk => hk) trivial (Below.refl _ _) (Nat.le_refl _) (by simp) ?_; (case hd => rfl); (case hg => rfl); (case hr => first | (go_simp; done) | (go_simp; rfl)); (case hp => exact (Reps.c2 (show Kd.M k46 _ _ _ (⟨2, 60⟩ : S46) [.int .i64 2, .int .i64 60] from (k46_mkM _ _ _ (⟨2, 60⟩ : S46) )) (Reps.c2 (show Kd.M k46 _ _ _ (⟨3, 1380⟩ : S46) [.int .i64 3, .int .i64 1380] from (k46_mkM _ _ _ (⟨3, 1380⟩ : S46) )) (Reps.c2 (show Kd.M k46 _ _ _ (⟨4, 160⟩ : S46) [.int .i64 4, .int .i64 160] from (k46_mkM _ _ _ (⟨4, 160⟩ : S46) )) (Reps.none _ _))))); intro v467 w117 ho118 hb hg_ hnew_; clear hg_ hnew_; (first | rw [← Ny466.out] at ho118 | (simp only [Int.reduceToNat] at ho118; rw [← Ny466.out] at ho118)); have n0_ := Aside0.mk (Kd.R_below (by (with_reducible repeat (first | apply Kd.R_alloc | apply Kd.R_drewN | apply Kd.R_drew)); exact HO_436002.out) hb); have n1_ := Aside0.mk (Kd.R_elder' (by (with_reducible repeat (first | apply Kd.R_alloc | apply Kd.R_drewN | apply Kd.R_drew)); exact HO459.out) (Kd.R_base ho118) hb); have n2_ := Aside0.mk (Kd.R_lower (Kd.R_new' ho118 (Kd.R_lt (by (with_reducible repeat (first | apply Kd.R_alloc | apply Kd.R_drewN | apply Kd.R_drew)); exact HO459.out))) (below_size (by repeat (first | (with_reducible first | exact HB.out | apply below_alloc | apply pw_below_drewN | apply below_drew1 | refine below_set ?_ GE435.out) | exact HB.out)))); have n3_ := Aside0.mk (blk_below (g := gb435) (o := .cells #[.string t430, .int .i64 t431, .slice Ao8 t432.length co8] 24 (0, 0)) (by (with_reducible repeat (first | refine blk_drewN ?_ _ | refine blk_drew ?_ | refine blk_alloc ?_ _)); exact BK435.out) hb); have n4_ := Aside0.mk (below_step (by repeat (first | (with_reducible first | exact HB.out | apply below_alloc | apply pw_below_drewN | apply below_drew1 | refine below_set ?_ GE435.out) | exact HB.out)) hb); clear HO_436002; clear HO459; clear BK435; clear HB; have HO_436002 := n0_; have HO459 := n1_; have HO468 := n2_; have BK435 := n3_; have HB := n4_; clear n0_ n1_ n2_ n3_ n4_; clear hb ho118; obtain ⟨Ao119, co119, eo119⟩ := Kd.R_slice HO459.out; subst eo119; obtain ⟨Ao120, co120, eo120⟩ := Kd.R_slice HO468.out; subst eo120) | (go_at_call 24; (with_reducible refine (wageofficeref03_Same.calls kj38 _ _ t457 _ _ y466 true _ ?side1 ?side2 ?side3 ?side4 A107.out).mono ?_); (case side1 => repeat (first | exact (Kd.R_reads' HO459.out).2.2 | (with_reducible refine Kd.C_alloc ?_ _) | (with_reducible refine Kd.C_drewN ?_ _) | (with_reducible refine Kd.C_drew ?_))); (case side2 => exact (Kd.R_reads' HO459.out).2.1); (case side3 => repeat (first | exact (Kd.R_reads' HO468.out).2.2 | (with_reducible refine Kd.C_alloc ?_ _) | (with_reducible refine Kd.C_drewN ?_ _) | (with_reducible refine Kd.C_drew ?_))); (case side4 => exact (Kd.R_reads' HO468.out).2.1); rintro e w' ⟨rfl, ⟨nd, rfl⟩⟩))
                    go_ret
                    exact ⟨by first | rfl | (simp [errW_none, errW_some] <;> rfl) | (simp [*, errW_none, errW_some] <;> rfl), by repeat (first | (with_reducible first | exact HB.out | apply below_alloc | apply pw_below_drewN | apply below_drew1 | refine below_set ?_ GE435.out) | exact HB.out)⟩
                  · rw [if_neg c110] at H
                    exact absurd H (by simp)
                · rw [if_neg c109] at H
                  exact absurd H (by simp)
              · replace c108 := Bool.eq_false_iff.mpr c108
                subst c108
                have H1 : (none) = some r := by rw [if_neg (show ¬ (false = true) by decide)] at H; exact H
                clear H
                have H := H1
                clear H1
                exact absurd H (by simp)
            · rw [if_neg c106] at H
              exact absurd H (by simp)
          · replace c105 := Bool.eq_false_iff.mpr c105
            subst c105
            have H1 : (none) = some r := by rw [if_neg (show ¬ (false = true) by decide)] at H; exact H
            clear H
            have H := H1
            clear H1
            exact absurd H (by simp)
def wageofficelaw03_small.f (a0_0 : ByteArray) (a0_1 : Int) (l0_2 : List (S75)) : Option (Bool) := some (decide ((l0_2.length : Int) ≤ 70))
set_option maxHeartbeats 8000000 in
set_option maxRecDepth 100000 in
theorem wageofficelaw03_small.calls (a0_0 : ByteArray) (a0_1 : Int) (A0_2 : Option Addr) (c0_2 : Nat) (l0_2 : List (S75)) (r : Bool) (w : World) (hr0_2 : Kd.C k75 w A0_2 l0_2.length l0_2) (hc0_2 : l0_2.length ≤ c0_2) (h : wageofficelaw03_small.f a0_0 a0_1 l0_2 = some r) :
    Calls Try.prog 34 #[.agg #[.string a0_0, .int .i64 a0_1, .slice A0_2 l0_2.length c0_2]] w fun e w' => e = .returned (.bool r) ∧ Below w.heap.size w w' := by
  have hu24 := Try.underlying24
  have HR0_2 := Aside0.mk hr0_2
  have HC0_2 := Aside0.mk hc0_2
  clear hr0_2 hc0_2
  have HB := Aside0.mk (Below.refl w.heap.size w)
  have H : (some (decide ((l0_2.length : Int) ≤ 70))) = some r := h
  clear h
  obtain rfl := Option.some.inj H
  go_enter Try.func34, Try.ntmps34
  go_wp2_with (first | ((with_reducible refine gate_dst (N := 1) rfl ?_); refine box_event ?hg (N := 1) ?hd (cs := #[.string a0_0, .int .i64 a0_1, .slice A0_2 l0_2.length c0_2]) (t := 24) ?hr ?_; (case hd => rfl); (case hg => rfl); (case hr => first | (go_simp; done) | (go_simp; rfl)); intro gb470 hg w2 hbox hb; have n0_ := Aside0.mk (below_step (by repeat (first | (with_reducible first | exact HB.out | apply below_alloc | apply pw_below_drewN | apply below_drew1) | exact HB.out)) hb); have n1_ := Aside0.mk (hbox); have n2_ := Aside0.mk ((by rw [hg]; exact (below_size (by repeat (first | (with_reducible first | exact HB.out | apply below_alloc | apply pw_below_drewN | apply below_drew1) | exact HB.out))) : w.heap.size ≤ gb470)); have n3_ := Aside0.mk ((by rw [hg]; exact (below_size (by repeat (first | (with_reducible first | exact HB.out | apply below_alloc | apply pw_below_drewN | apply below_drew1) | exact HB.out))) : w.heap.size ≤ gb470)); clear HB; have HB := n0_; have BK470 := n1_; have GW470 := n2_; have GE470 := n3_; clear n0_ n1_ n2_ n3_; clear hb hbox hg; have hcz3_0 : w2.cell? ⟨gb470, 0, none⟩ = some (.string a0_0) := (blk_cell BK470.out 0).trans rfl; have hcz3_1 : w2.cell? ⟨gb470, 1, none⟩ = some (.int .i64 a0_1) := (blk_cell BK470.out 1).trans rfl; have hcz3_2 : w2.cell? ⟨gb470, 2, none⟩ = some (.slice A0_2 l0_2.length c0_2) := (blk_cell BK470.out 2).trans rfl; have hfz3_0 := blk_frozen BK470.out 0; have hfz3_1 := blk_frozen BK470.out 1; have hfz3_2 := blk_frozen BK470.out 2))
  go_ret
  exact ⟨by first | rfl | (simp [errW_none, errW_some] <;> rfl) | (simp [*, errW_none, errW_some] <;> rfl), by repeat (first | (with_reducible first | exact HB.out | apply below_alloc | apply pw_below_drewN | apply below_drew1 | refine below_set ?_ GE470.out) | exact HB.out)⟩
end Go.Proofs.Ytnpceipoakclbaa.Q
