/- For all zones, duties and windows, the functions of package shifts return what the reference implementation returns; conditions: none beyond the reading of the inputs.
   The walk of the law's code and its plain law (merged by wip/tools/trim.py out of own texts and of texts that the kit's printer wrote). -/
import Derived.Test.YtnpceipoakclbaaCSMR1
import Derived.Test.YtnpceipoakclbaaProg
import Derived.Below
import Derived.Deep.Draws
import Derived.Deep.AppendLies
import Derived.Maps.AppendAt
import Derived.OwnWalk
import Derived.Laws.BytesArg
import Derived.Laws.MakeOwn
import Derived.Laws.OwnMore
import Derived.Deep.OwnRows
import Derived.Tactics
import Derived.Lib.ConvBytes
import Derived.Laws.Slices
import Derived.WalkKit
import Derived.KernelRfl
import Derived.RowKit3
import Derived.Deep.LoopGhost
import Derived.Deep.QuietTactic
import Derived.BigQuiet
import Derived.WideLaws
import Derived.Deep.DeepCutAuto
import Derived.Deep.CutBlock
import Derived.Deep.RegionHeld3
import Derived.Laws.Rows
import Derived.Lib.AppendStr
import Derived.ArgAppend
import Derived.Laws.IdiomCopy
import Derived.OrdersHeld
import Derived.Laws.BitsLemmas
import Derived.RowKit
import Derived.RangeFuncNested
import Derived.RangeFuncBox
import Derived.RangeFuncCalls
import Derived.RangeFuncLeaves
import Derived.TacticsIn
import Derived.Shelf.Abstract
import Derived.Shelf.RegionOpen
import Derived.OwnWalkIn
import Derived.TacticsInMore
import Derived.LoopNIn
import Derived.LoopIn
import Derived.Lib.Hide
import Derived.IntWalk
import Derived.Outline
namespace Go.Proofs.Ytnpceipoakclbaa.Q
open Go.RowKit Go.Proofs.YtnpceipoakclbaaW.PrintWords Go.Proofs.YtnpceipoakclbaaW.PrintLast Go.Proofs.YtnpceipoakclbaaW.PrintMore
attribute [local go_sem] max2_int min2_int max_two min_two max_three min_three max_four min_four   -- for this text's walks alone
set_option linter.unusedVariables false
set_option linter.unusedSimpArgs false
def errW : Option Int → Value
  | none => .nilIface
  | some c => .iface 0 (.int .i64 c)
theorem errW_none : errW none = .nilIface := rfl
theorem errW_some (c : Int) : errW (some c) = .iface 0 (.int .i64 c) := rfl
theorem info46 : (Try.prog.info? 46).map (fun i => (i.zero, i.size, i.bytes)) = some (some (.agg #[(.int .i64 0), (.int .i64 0)]), 2, 16) := by kernel_rfl
theorem info75 : (Try.prog.info? 75).map (fun i => (i.zero, i.size, i.bytes)) = some (some (.agg #[(.int .i64 0), (.int .i64 0)]), 2, 16) := by kernel_rfl
structure S75 where
  f0 : Int
  f1 : Int
def z75 : S75 := ⟨(0 : Int), (0 : Int)⟩
def k75 : Kd S75 := Kd.iso (Kd.pair (Kd.int .i64) (Kd.int .i64)) (fun x : S75 => (x.f0, x.f1))
theorem k75_open {w : World} {x : S75} {cs : List Value} (h : k75.K w x cs) : cs = [.int .i64 x.f0, .int .i64 x.f1] := by
  obtain ⟨_, _, rfl, rfl, rfl⟩ := h
  exact rfl
theorem k75_mkM (w : World) (base : Nat) (ok : Nat → Prop) (x : S75)  : k75.M w base ok x [.int .i64 x.f0, .int .i64 x.f1] := ⟨[.int .i64 x.f0], [.int .i64 x.f1], rfl, rfl, rfl⟩
def rd_T75 (xs : List S75) (i : Int) : S75 := xs.getD i.toNat z75
theorem at_T75 {w : World} {A : Option Addr} {n : Nat} {xs : List S75} (h : Kd.C k75 w A n xs) (i : Int) (h0 : 0 ≤ i) (h1 : i < n) : ∃ ad , A = some ad ∧ w.cell? (ad.add (i.toNat * 2)) = some (.int .i64 (rd_T75 xs i).f0) ∧ w.cell? ⟨(ad.add (i.toNat * 2)).block, (ad.add (i.toNat * 2)).off + 1, none⟩ = some (.int .i64 (rd_T75 xs i).f1) := by
  obtain ⟨ad, c, e, _, hK, hc0⟩ := Kd.C_get h z75 i h0 h1
  have hc : ∀ j u, c[j]? = some u → w.cell? (ad.add (i.toNat * 2 + j)) = some u := hc0
  obtain rfl := k75_open hK
  exact ⟨ad, e, hc 0 _ rfl, by rw [← add_field _ _ 1 (by omega)]; exact hc 1 _ rfl⟩
structure S46 where
  f0 : Int
  f1 : Int
def z46 : S46 := ⟨(0 : Int), (0 : Int)⟩
def k46 : Kd S46 := Kd.iso (Kd.pair (Kd.int .i64) (Kd.int .i64)) (fun x : S46 => (x.f0, x.f1))
theorem k46_open {w : World} {x : S46} {cs : List Value} (h : k46.K w x cs) : cs = [.int .i64 x.f0, .int .i64 x.f1] := by
  obtain ⟨_, _, rfl, rfl, rfl⟩ := h
  exact rfl
theorem k46_openM {w : World} {base : Nat} {ok : Nat → Prop} {x : S46} {cs : List Value} (h : k46.M w base ok x cs) : cs = [.int .i64 x.f0, .int .i64 x.f1] := by
  obtain ⟨_, _, rfl, rfl, rfl⟩ := h
  exact rfl
theorem k46_mkM (w : World) (base : Nat) (ok : Nat → Prop) (x : S46)  : k46.M w base ok x [.int .i64 x.f0, .int .i64 x.f1] := ⟨[.int .i64 x.f0], [.int .i64 x.f1], rfl, rfl, rfl⟩
def rd_T46 (xs : List S46) (i : Int) : S46 := xs.getD i.toNat z46
theorem at_T46 {w : World} {A : Option Addr} {n : Nat} {xs : List S46} (h : Kd.C k46 w A n xs) (i : Int) (h0 : 0 ≤ i) (h1 : i < n) : ∃ ad , A = some ad ∧ w.cell? (ad.add (i.toNat * 2)) = some (.int .i64 (rd_T46 xs i).f0) ∧ w.cell? ⟨(ad.add (i.toNat * 2)).block, (ad.add (i.toNat * 2)).off + 1, none⟩ = some (.int .i64 (rd_T46 xs i).f1) := by
  obtain ⟨ad, c, e, _, hK, hc0⟩ := Kd.C_get h z46 i h0 h1
  have hc : ∀ j u, c[j]? = some u → w.cell? (ad.add (i.toNat * 2 + j)) = some u := hc0
  obtain rfl := k46_open hK
  exact ⟨ad, e, hc 0 _ rfl, by rw [← add_field _ _ 1 (by omega)]; exact hc 1 _ rfl⟩
structure S24 where
  f0 : ByteArray
  f1 : Int
  f2 : (List S75)
def k24 : Kd S24 := Kd.iso (Kd.pair Kd.string (Kd.pair (Kd.int .i64) (Kd.slice 75 k75))) (fun x : S24 => (x.f0, x.f1, x.f2))
theorem k24_open {w : World} {x : S24} {cs : List Value} (h : k24.K w x cs) : ∃ A2 c2, cs = [.string x.f0, .int .i64 x.f1, .slice A2 x.f2.length c2] ∧ x.f2.length ≤ c2 ∧ k75.C w A2 x.f2.length x.f2 := by
  obtain ⟨_, _, rfl, rfl, ⟨_, _, rfl, rfl, ⟨A2, c2, rfl, l2, g2⟩⟩⟩ := h
  exact ⟨A2, c2, rfl, l2, g2⟩
structure S28 where
  f0 : Int
  f1 : Int
def k28 : Kd S28 := Kd.iso (Kd.pair (Kd.int .i64) (Kd.int .i64)) (fun x : S28 => (x.f0, x.f1))
theorem k28_open {w : World} {x : S28} {cs : List Value} (h : k28.K w x cs) : cs = [.int .i64 x.f0, .int .i64 x.f1] := by
  obtain ⟨_, _, rfl, rfl, rfl⟩ := h
  exact rfl
structure S50 where
  f0 : Int
  f1 : Int
def z50 : S50 := ⟨(0 : Int), (0 : Int)⟩
def k50 : Kd S50 := Kd.iso (Kd.pair (Kd.int .i64) (Kd.int .i64)) (fun x : S50 => (x.f0, x.f1))
theorem k50_open {w : World} {x : S50} {cs : List Value} (h : k50.K w x cs) : cs = [.int .i64 x.f0, .int .i64 x.f1] := by
  obtain ⟨_, _, rfl, rfl, rfl⟩ := h
  exact rfl
def rd_T50 (xs : List S50) (i : Int) : S50 := xs.getD i.toNat z50
theorem at_T50 {w : World} {A : Option Addr} {n : Nat} {xs : List S50} (h : Kd.C k50 w A n xs) (i : Int) (h0 : 0 ≤ i) (h1 : i < n) : ∃ ad , A = some ad ∧ w.cell? (ad.add (i.toNat * 2)) = some (.int .i64 (rd_T50 xs i).f0) ∧ w.cell? ⟨(ad.add (i.toNat * 2)).block, (ad.add (i.toNat * 2)).off + 1, none⟩ = some (.int .i64 (rd_T50 xs i).f1) := by
  obtain ⟨ad, c, e, _, hK, hc0⟩ := Kd.C_get h z50 i h0 h1
  have hc : ∀ j u, c[j]? = some u → w.cell? (ad.add (i.toNat * 2 + j)) = some u := hc0
  obtain rfl := k50_open hK
  exact ⟨ad, e, hc 0 _ rfl, by rw [← add_field _ _ 1 (by omega)]; exact hc 1 _ rfl⟩
structure S26 where
  f0 : Int
  f1 : Int
  f2 : Int
def k26 : Kd S26 := Kd.iso (Kd.pair (Kd.int .i64) (Kd.pair (Kd.int .i64) (Kd.int .i64))) (fun x : S26 => (x.f0, x.f1, x.f2))
theorem k26_open {w : World} {x : S26} {cs : List Value} (h : k26.K w x cs) : cs = [.int .i64 x.f0, .int .i64 x.f1, .int .i64 x.f2] := by
  obtain ⟨_, _, rfl, rfl, ⟨_, _, rfl, rfl, rfl⟩⟩ := h
  exact rfl
end Go.Proofs.Ytnpceipoakclbaa.Q

namespace Go.Proofs.Ytnpceipoakclbaa.Q
open Go.RowKit Go.Proofs.YtnpceipoakclbaaW.PrintWords Go.Proofs.YtnpceipoakclbaaW.PrintLast Go.Proofs.YtnpceipoakclbaaW.PrintMore
attribute [local go_sem] max2_int min2_int max_two min_two max_three min_three max_four min_four   -- for this text's walks alone
set_option linter.unusedVariables false
set_option linter.unusedSimpArgs false
def wageofficeref03_Instant.f (a0 : Int) : Option (Bool) := if a0 ≥ 0 then (some (decide (a0 ≤ 52595999))) else (some false)
set_option maxHeartbeats 8000000 in
set_option maxRecDepth 100000 in
theorem wageofficeref03_Instant.calls (a0 : Int) (r : Bool) (w : World) (h : wageofficeref03_Instant.f a0 = some r) :
    Calls Try.prog 57 #[.int .i64 a0] w fun e w' => e = .returned (.bool r) ∧ Drawn0 w w' := by
  have H : (if a0 ≥ 0 then (some (decide (a0 ≤ 52595999))) else (some false)) = some r := h
  clear h
  by_cases c2 : a0 ≥ 0
  · rw [if_pos c2] at H
    have c2b0 : decide (0 ≤ a0) = true := decide_eq_true c2
    clear c2
    obtain rfl := Option.some.inj H
    go_enter Try.func57, Try.ntmps57
    go_wp2
    go_ret
    exact ⟨by first | rfl | (simp; done) | (simp [*]; done), by repeat (first | exact Drawn0.refl _ | apply Drawn0.step)⟩
  · rw [if_neg c2] at H
    have c2b0 : decide (0 ≤ a0) = false := decide_eq_false c2
    clear c2
    obtain rfl := Option.some.inj H
    go_enter Try.func57, Try.ntmps57
    go_wp2
    go_ret
    exact ⟨by first | rfl | (simp; done) | (simp [*]; done), by repeat (first | exact Drawn0.refl _ | apply Drawn0.step)⟩
def wageofficeref03_Stretch.f (a0 : Int) (a1 : Int) : Option (Bool) := if a0 ≥ 0 then (if a0 ≤ a1 then (some (decide (a1 ≤ 52596000))) else (some false)) else (some false)
set_option maxHeartbeats 8000000 in
set_option maxRecDepth 100000 in
theorem wageofficeref03_Stretch.calls (a0 : Int) (a1 : Int) (r : Bool) (w : World) (h : wageofficeref03_Stretch.f a0 a1 = some r) :
    Calls Try.prog 69 #[.int .i64 a0, .int .i64 a1] w fun e w' => e = .returned (.bool r) ∧ Drawn0 w w' := by
  have H : (if a0 ≥ 0 then (if a0 ≤ a1 then (some (decide (a1 ≤ 52596000))) else (some false)) else (some false)) = some r := h
  clear h
  by_cases c3 : a0 ≥ 0
  · rw [if_pos c3] at H
    have c3b0 : decide (0 ≤ a0) = true := decide_eq_true c3
    clear c3
    by_cases c4 : a0 ≤ a1
    · rw [if_pos c4] at H
      have c4b0 : decide (a0 ≤ a1) = true := decide_eq_true c4
      clear c4
      obtain rfl := Option.some.inj H
      go_enter Try.func69, Try.ntmps69
      go_wp2
      go_ret
      exact ⟨by first | rfl | (simp; done) | (simp [*]; done), by repeat (first | exact Drawn0.refl _ | apply Drawn0.step)⟩
    · rw [if_neg c4] at H
      have c4b0 : decide (a0 ≤ a1) = false := decide_eq_false c4
      clear c4
      obtain rfl := Option.some.inj H
      go_enter Try.func69, Try.ntmps69
      go_wp2
      go_ret
      exact ⟨by first | rfl | (simp; done) | (simp [*]; done), by repeat (first | exact Drawn0.refl _ | apply Drawn0.step)⟩
  · rw [if_neg c3] at H
    have c3b0 : decide (0 ≤ a0) = false := decide_eq_false c3
    clear c3
    obtain rfl := Option.some.inj H
    go_enter Try.func69, Try.ntmps69
    go_wp2
    go_ret
    exact ⟨by first | rfl | (simp; done) | (simp [*]; done), by repeat (first | exact Drawn0.refl _ | apply Drawn0.step)⟩
def wageofficeref03_offset.l0 : Nat → Int → Int → Int → ByteArray → Int → List (S75) → Option (Int)
  | 0, _, _, _, _, _, _ => none
  | k + 1, x1, x5, x6, x199000, x199001, x199002 => if x6 < (x199002.length : Int) then (if 0 ≤ x6 then (if ((rd_T75 x199002 x6).f0) ≤ x1 then (wageofficeref03_offset.l0 k x1 ((rd_T75 x199002 x6).f1) (wrap64 (x6 + 1)) x199000 x199001 x199002) else (some x5)) else (none)) else (some x5)
def wageofficeref03_offset.f (k : Nat) (a0_0 : ByteArray) (a0_1 : Int) (l0_2 : List (S75)) (a1 : Int) : Option (Int) := wageofficeref03_offset.l0 k a1 a0_1 0 a0_0 a0_1 l0_2
theorem wageofficeref03_offset.mono_l : ∀ k, (∀ y0 y1 y2 y3 y4 y5, LeO (wageofficeref03_offset.l0 k y0 y1 y2 y3 y4 y5) (wageofficeref03_offset.l0 (k + 1) y0 y1 y2 y3 y4 y5))
  | 0 => fun _ _ _ _ _ _ r h => by simp [wageofficeref03_offset.l0] at h
  | k + 1 => by
    have ih0 := wageofficeref03_offset.mono_l k
    · intro y0 y1 y2 y3 y4 y5
      unfold wageofficeref03_offset.l0
      repeat' first
      | (with_reducible exact ih0 _ _ _ _ _ _)
      | (with_reducible exact LeO.refl _)
      | (with_reducible exact LeO.none _)
      | (with_reducible refine LeO.ite ?_ ?_)
      | (with_reducible refine LeO.bind ?_ (fun _ => ?_))
      | exact ih0 _ _ _ _ _ _
      | exact LeO.none _
      | refine LeO.ite ?_ ?_
      | refine LeO.bind ?_ (fun _ => ?_)
theorem wageofficeref03_offset.mono : ∀ a0 a1 a2 a3 k, LeO (wageofficeref03_offset.f k a0 a1 a2 a3) (wageofficeref03_offset.f (k + 1) a0 a1 a2 a3) := by
  intro a0 a1 a2 a3 k
  have ih0 := wageofficeref03_offset.mono_l k
  unfold wageofficeref03_offset.f
  repeat' first
      | (with_reducible exact ih0 _ _ _ _ _ _)
      | (with_reducible exact LeO.refl _)
      | (with_reducible exact LeO.none _)
      | (with_reducible refine LeO.ite ?_ ?_)
      | (with_reducible refine LeO.bind ?_ (fun _ => ?_))
      | exact ih0 _ _ _ _ _ _
      | exact LeO.none _
      | refine LeO.ite ?_ ?_
      | refine LeO.bind ?_ (fun _ => ?_)
set_option maxHeartbeats 8000000 in
set_option maxRecDepth 100000 in
theorem wageofficeref03_offset.calls (k : Nat) (a0_0 : ByteArray) (a0_1 : Int) (A0_2 : Option Addr) (c0_2 : Nat) (l0_2 : List (S75)) (a1 : Int) (r : Int) (w : World) (hr0_2 : Kd.C k75 w A0_2 l0_2.length l0_2) (hc0_2 : l0_2.length ≤ c0_2) (h : wageofficeref03_offset.f k a0_0 a0_1 l0_2 a1 = some r) :
    Calls Try.prog 63 #[.agg #[.string a0_0, .int .i64 a0_1, .slice A0_2 l0_2.length c0_2], .int .i64 a1] w fun e w' => e = .returned (.int .i64 r) ∧ Below w.heap.size w w' := by
  have hu24 := Try.underlying24
  have HR0_2 := Aside0.mk hr0_2
  have HC0_2 := Aside0.mk hc0_2
  clear hr0_2 hc0_2
  have HB := Aside0.mk (Below.refl w.heap.size w)
  have H : (wageofficeref03_offset.l0 k a1 a0_1 0 a0_0 a0_1 l0_2) = some r := h
  clear h
  have H' := Aside0.mk H
  clear H
  go_enter Try.func63, Try.ntmps63
  go_wp2_with (first | ((with_reducible refine gate_dst (N := 2) rfl ?_); refine box_event ?hg (N := 2) ?hd (cs := #[.string a0_0, .int .i64 a0_1, .slice A0_2 l0_2.length c0_2]) (t := 24) ?hr ?_; (case hd => rfl); (case hg => rfl); (case hr => first | (go_simp; done) | (go_simp; rfl)); intro gb198 hg w3 hbox hb; have n0_ := Aside0.mk (below_step (by repeat (first | (with_reducible first | exact HB.out | apply below_alloc | apply pw_below_drewN | apply below_drew1) | exact HB.out)) hb); have n1_ := Aside0.mk (hbox); have n2_ := Aside0.mk ((by rw [hg]; exact (below_size (by repeat (first | (with_reducible first | exact HB.out | apply below_alloc | apply pw_below_drewN | apply below_drew1) | exact HB.out))) : w.heap.size ≤ gb198)); have n3_ := Aside0.mk ((by rw [hg]; exact (below_size (by repeat (first | (with_reducible first | exact HB.out | apply below_alloc | apply pw_below_drewN | apply below_drew1) | exact HB.out))) : w.heap.size ≤ gb198)); clear HB; have HB := n0_; have BK198 := n1_; have GW198 := n2_; have GE198 := n3_; clear n0_ n1_ n2_ n3_; clear hb hbox hg; have hcz4_0 : w3.cell? ⟨gb198, 0, none⟩ = some (.string a0_0) := (blk_cell BK198.out 0).trans rfl; have hcz4_1 : w3.cell? ⟨gb198, 1, none⟩ = some (.int .i64 a0_1) := (blk_cell BK198.out 1).trans rfl; have hcz4_2 : w3.cell? ⟨gb198, 2, none⟩ = some (.slice A0_2 l0_2.length c0_2) := (blk_cell BK198.out 2).trans rfl; have hfz4_0 := blk_frozen BK198.out 0; have hfz4_1 := blk_frozen BK198.out 1; have hfz4_2 := blk_frozen BK198.out 2))
  go_loopg [5, 6] k (fun kq v5 v6 w' => ∃ (x5_1 : Int) (x6_1 : Int), v5 = .int .i64 x5_1 ∧ v6 = .int .i64 x6_1 ∧ Aside0 (wageofficeref03_offset.l0 kq a1 x5_1 x6_1 a0_0 a0_1 l0_2 = some r) ∧ Aside0 (kq ≤ k) ∧ Aside0 (w'.heap[gb198]? = some (.cells #[.string a0_0, .int .i64 a0_1, (.slice A0_2 l0_2.length c0_2)] 24 (0, 0))) ∧ Aside0 (Below w.heap.size w w'))
  case atStart => exact ⟨(a0_1), (0), (by first | rfl | (simp; done) | (simp [*]; done)), (by first | rfl | (simp; done) | (simp [*]; done)), H', ⟨Nat.le_refl _⟩, ⟨by (with_reducible repeat (first | refine blk_drewN ?_ _ | refine blk_drew ?_ | refine blk_alloc ?_ _)); exact BK198.out⟩, ⟨by repeat (first | (with_reducible first | exact HB.out | apply below_alloc | apply pw_below_drewN | apply below_drew1 | refine below_set ?_ GE198.out) | exact HB.out)⟩⟩
  case round =>
    clear H'
    try clear p2
    try clear hcz4_0
    try clear hcz4_1
    try clear hcz4_2
    try clear hfz4_0
    try clear hfz4_1
    try clear hfz4_2
    obtain ⟨x5_1, x6_1, rfl, rfl, HA, HK1, BK198, HB⟩ := hrel
    cases gk with
    | zero => exact absurd HA.out (by simp [wageofficeref03_offset.l0])
    | succ k1 =>
      have H := HA.out
      clear HA
      simp only [wageofficeref03_offset.l0] at H
      by_cases c5 : x6_1 < (l0_2.length : Int)
      · rw [if_pos c5] at H
        have c5b0 : decide (x6_1 < (l0_2.length : Int)) = true := decide_eq_true c5
        clear c5
        by_cases c6 : 0 ≤ x6_1
        · rw [if_pos c6] at H
          have c6b0 : decide (0 ≤ x6_1) = true := decide_eq_true c6
          clear c6
          by_cases c7 : ((rd_T75 l0_2 x6_1).f0) ≤ a1
          · rw [if_pos c7] at H
            have c7b0 : decide (((rd_T75 l0_2 x6_1).f0) ≤ a1) = true := decide_eq_true c7
            clear c7
            have H' := Aside0.mk H
            clear H
            have hcz8_0 : wr.cell? ⟨gb198, 0, none⟩ = some (.string a0_0) := (blk_cell BK198.out 0).trans rfl
            have hcz8_1 : wr.cell? ⟨gb198, 1, none⟩ = some (.int .i64 a0_1) := (blk_cell BK198.out 1).trans rfl
            have hcz8_2 : wr.cell? ⟨gb198, 2, none⟩ = some (.slice A0_2 l0_2.length c0_2) := (blk_cell BK198.out 2).trans rfl
            have hfz8_0 := blk_frozen BK198.out 0
            have hfz8_1 := blk_frozen BK198.out 1
            have hfz8_2 := blk_frozen BK198.out 2
            have p199 : 0 ≤ (x6_1 : Int) := of_decide_eq_true (by first | (with_reducible assumption) | assumption)
            have q199 : x6_1 < (l0_2.length : Int) := of_decide_eq_true (by first | (with_reducible assumption) | assumption)
            obtain ⟨ad199, e199, hx199_0, hx199_1⟩ := at_T75 HR0_2.out x6_1 p199 q199
            cases e199
            replace hx199_0 := (HB.out.cell (World.block_lt_of_cell? w _ hx199_0)).trans hx199_0
            replace hx199_1 := (HB.out.cell (World.block_lt_of_cell? w _ hx199_1)).trans hx199_1
            replace p199 := eq_true p199
            replace q199 := eq_true q199
            have p200 : 0 ≤ (x6_1 : Int) := of_decide_eq_true (by first | (with_reducible assumption) | assumption)
            have q200 : x6_1 < (l0_2.length : Int) := of_decide_eq_true (by first | (with_reducible assumption) | assumption)
            obtain ⟨ad200, e200, hx200_0, hx200_1⟩ := at_T75 HR0_2.out x6_1 p200 q200
            obtain rfl : ad199 = ad200 := (by injection e200)
            replace hx200_0 := (HB.out.cell (World.block_lt_of_cell? w _ hx200_0)).trans hx200_0
            replace hx200_1 := (HB.out.cell (World.block_lt_of_cell? w _ hx200_1)).trans hx200_1
            replace p200 := eq_true p200
            replace q200 := eq_true q200
            go_wp2
            go_roundg k1
            case measure => have := HK1.out; omega
            case rel => exact ⟨((rd_T75 l0_2 x6_1).f1), (wrap64 (x6_1 + 1)), (by first | rfl | (simp; done) | (simp [*]; done)), (by first | rfl | (simp; done) | (simp [*]; done)), H', ⟨by have := HK1.out; omega⟩, ⟨by (with_reducible repeat (first | refine blk_drewN ?_ _ | refine blk_drew ?_ | refine blk_alloc ?_ _)); exact BK198.out⟩, ⟨by repeat (first | (with_reducible first | exact HB.out | apply below_alloc | apply pw_below_drewN | apply below_drew1 | refine below_set ?_ GE198.out) | exact HB.out)⟩⟩
          · rw [if_neg c7] at H
            have c7b0 : decide (((rd_T75 l0_2 x6_1).f0) ≤ a1) = false := decide_eq_false c7
            clear c7
            obtain rfl := Option.some.inj H
            have hcz9_0 : wr.cell? ⟨gb198, 0, none⟩ = some (.string a0_0) := (blk_cell BK198.out 0).trans rfl
            have hcz9_1 : wr.cell? ⟨gb198, 1, none⟩ = some (.int .i64 a0_1) := (blk_cell BK198.out 1).trans rfl
            have hcz9_2 : wr.cell? ⟨gb198, 2, none⟩ = some (.slice A0_2 l0_2.length c0_2) := (blk_cell BK198.out 2).trans rfl
            have hfz9_0 := blk_frozen BK198.out 0
            have hfz9_1 := blk_frozen BK198.out 1
            have hfz9_2 := blk_frozen BK198.out 2
            have p199 : 0 ≤ (x6_1 : Int) := of_decide_eq_true (by first | (with_reducible assumption) | assumption)
            have q199 : x6_1 < (l0_2.length : Int) := of_decide_eq_true (by first | (with_reducible assumption) | assumption)
            obtain ⟨ad199, e199, hx199_0, hx199_1⟩ := at_T75 HR0_2.out x6_1 p199 q199
            cases e199
            replace hx199_0 := (HB.out.cell (World.block_lt_of_cell? w _ hx199_0)).trans hx199_0
            replace hx199_1 := (HB.out.cell (World.block_lt_of_cell? w _ hx199_1)).trans hx199_1
            replace p199 := eq_true p199
            replace q199 := eq_true q199
            go_wp2
            go_ret
            exact ⟨by first | rfl | (simp [errW_none, errW_some] <;> rfl) | (simp [*, errW_none, errW_some] <;> rfl), by repeat (first | (with_reducible first | exact HB.out | apply below_alloc | apply pw_below_drewN | apply below_drew1 | refine below_set ?_ GE198.out) | exact HB.out)⟩
        · rw [if_neg c6] at H
          exact absurd H (by simp)
      · rw [if_neg c5] at H
        have c5b0 : decide (x6_1 < (l0_2.length : Int)) = false := decide_eq_false c5
        clear c5
        obtain rfl := Option.some.inj H
        have hcz10_0 : wr.cell? ⟨gb198, 0, none⟩ = some (.string a0_0) := (blk_cell BK198.out 0).trans rfl
        have hcz10_1 : wr.cell? ⟨gb198, 1, none⟩ = some (.int .i64 a0_1) := (blk_cell BK198.out 1).trans rfl
        have hcz10_2 : wr.cell? ⟨gb198, 2, none⟩ = some (.slice A0_2 l0_2.length c0_2) := (blk_cell BK198.out 2).trans rfl
        have hfz10_0 := blk_frozen BK198.out 0
        have hfz10_1 := blk_frozen BK198.out 1
        have hfz10_2 := blk_frozen BK198.out 2
        go_wp2
        go_ret
        exact ⟨by first | rfl | (simp [errW_none, errW_some] <;> rfl) | (simp [*, errW_none, errW_some] <;> rfl), by repeat (first | (with_reducible first | exact HB.out | apply below_alloc | apply pw_below_drewN | apply below_drew1 | refine below_set ?_ GE198.out) | exact HB.out)⟩
def wageofficeref03_local.f (k : Nat) (a0_0 : ByteArray) (a0_1 : Int) (l0_2 : List (S75)) (a1 : Int) : Option (Int × Int) := (wageofficeref03_offset.f k a0_0 a0_1 l0_2 a1).bind fun t202 => (if (wrap64 (a1 + t202)) < 0 then (some ((-1), wrap64 ((wrap64 (a1 + t202)) + 1440))) else (some (wrap64 (Int.tdiv (wrap64 (a1 + t202)) 1440), Int.tmod (wrap64 (a1 + t202)) 1440)))
theorem wageofficeref03_local.mono : ∀ a0 a1 a2 a3 k, LeO (wageofficeref03_local.f k a0 a1 a2 a3) (wageofficeref03_local.f (k + 1) a0 a1 a2 a3) := by
  intro a0 a1 a2 a3 k
  unfold wageofficeref03_local.f
  repeat' first
      | (with_reducible exact wageofficeref03_offset.mono _ _ _ _ _)
      | (with_reducible exact LeO.refl _)
      | (with_reducible exact LeO.none _)
      | (with_reducible refine LeO.ite ?_ ?_)
      | (with_reducible refine LeO.bind ?_ (fun _ => ?_))
      | exact wageofficeref03_offset.mono _ _ _ _ _
      | exact LeO.none _
      | refine LeO.ite ?_ ?_
      | refine LeO.bind ?_ (fun _ => ?_)
set_option maxHeartbeats 8000000 in
set_option maxRecDepth 100000 in
theorem wageofficeref03_local.calls (k : Nat) (a0_0 : ByteArray) (a0_1 : Int) (A0_2 : Option Addr) (c0_2 : Nat) (l0_2 : List (S75)) (a1 : Int) (r1 : Int) (r2 : Int) (w : World) (hr0_2 : Kd.C k75 w A0_2 l0_2.length l0_2) (hc0_2 : l0_2.length ≤ c0_2) (h : wageofficeref03_local.f k a0_0 a0_1 l0_2 a1 = some (r1, r2)) :
    Calls Try.prog 56 #[.agg #[.string a0_0, .int .i64 a0_1, .slice A0_2 l0_2.length c0_2], .int .i64 a1] w fun e w' => e = .returned (.tuple #[.int .i64 r1, .int .i64 r2]) ∧ Below w.heap.size w w' := by
  have hu24 := Try.underlying24
  have HR0_2 := Aside0.mk hr0_2
  have HC0_2 := Aside0.mk hc0_2
  clear hr0_2 hc0_2
  have HB := Aside0.mk (Below.refl w.heap.size w)
  have H : ((wageofficeref03_offset.f k a0_0 a0_1 l0_2 a1).bind fun t202 => (if (wrap64 (a1 + t202)) < 0 then (some ((-1), wrap64 ((wrap64 (a1 + t202)) + 1440))) else (some (wrap64 (Int.tdiv (wrap64 (a1 + t202)) 1440), Int.tmod (wrap64 (a1 + t202)) 1440)))) = some (r1, r2) := h
  clear h
  replace H := Option.bind_eq_some_iff.mp H
  obtain ⟨t202, A30, H⟩ := H
  replace H : (if (wrap64 (a1 + t202)) < 0 then (some ((-1), wrap64 ((wrap64 (a1 + t202)) + 1440))) else (some (wrap64 (Int.tdiv (wrap64 (a1 + t202)) 1440), Int.tmod (wrap64 (a1 + t202)) 1440))) = some (r1, r2) := H
  have A3 := Aside0.mk A30
  clear A30
  by_cases c4 : (wrap64 (a1 + t202)) < 0
  · rw [if_pos c4] at H
    have c4b0 : decide ((wrap64 (a1 + t202)) < 0) = true := decide_eq_true c4
    clear c4
    simp only [Option.some.injEq, Prod.mk.injEq] at H
    obtain ⟨rfl, rfl⟩ := H
    go_enter Try.func56, Try.ntmps56
    go_wp2_with (first | ((with_reducible refine gate_dst (N := 2) rfl ?_); refine box_event ?hg (N := 2) ?hd (cs := #[.string a0_0, .int .i64 a0_1, .slice A0_2 l0_2.length c0_2]) (t := 24) ?hr ?_; (case hd => rfl); (case hg => rfl); (case hr => first | (go_simp; done) | (go_simp; rfl)); intro gb201 hg w5 hbox hb; have n0_ := Aside0.mk (below_step (by repeat (first | (with_reducible first | exact HB.out | apply below_alloc | apply pw_below_drewN | apply below_drew1) | exact HB.out)) hb); have n1_ := Aside0.mk (hbox); have n2_ := Aside0.mk ((by rw [hg]; exact (below_size (by repeat (first | (with_reducible first | exact HB.out | apply below_alloc | apply pw_below_drewN | apply below_drew1) | exact HB.out))) : w.heap.size ≤ gb201)); have n3_ := Aside0.mk ((by rw [hg]; exact (below_size (by repeat (first | (with_reducible first | exact HB.out | apply below_alloc | apply pw_below_drewN | apply below_drew1) | exact HB.out))) : w.heap.size ≤ gb201)); clear HB; have HB := n0_; have BK201 := n1_; have GW201 := n2_; have GE201 := n3_; clear n0_ n1_ n2_ n3_; clear hb hbox hg; have hcz6_0 : w5.cell? ⟨gb201, 0, none⟩ = some (.string a0_0) := (blk_cell BK201.out 0).trans rfl; have hcz6_1 : w5.cell? ⟨gb201, 1, none⟩ = some (.int .i64 a0_1) := (blk_cell BK201.out 1).trans rfl; have hcz6_2 : w5.cell? ⟨gb201, 2, none⟩ = some (.slice A0_2 l0_2.length c0_2) := (blk_cell BK201.out 2).trans rfl; have hfz6_0 := blk_frozen BK201.out 0; have hfz6_1 := blk_frozen BK201.out 1; have hfz6_2 := blk_frozen BK201.out 2) | ((with_reducible refine gate_callee (f := 63) rfl ?_); refine goesL_ (some 10) rfl rfl Try.func63 (by kernel_rfl) rfl #[.agg #[.string a0_0, .int .i64 a0_1, .slice A0_2 l0_2.length c0_2], .int .i64 a1] rfl (by (try simp only [List.map_toArray, List.map_cons, List.map_nil]); first | done | rfl | (simp only [List.length_drop, List.length_take]; rfl)) ?_; (with_reducible refine (wageofficeref03_offset.calls k a0_0 a0_1 _ _ l0_2 a1 t202 _ ?side1 ?side2 A3.out).mono ?_); (case side1 => repeat (first | exact (Kd.C_below HR0_2.out HB.out) | (with_reducible refine Kd.C_alloc ?_ _) | (with_reducible refine Kd.C_drewN ?_ _) | (with_reducible refine Kd.C_drew ?_))); (case side2 => exact HC0_2.out); rintro e w7 ⟨rfl, hb⟩; refine ⟨_, rfl, ?_⟩; have n0_ := Aside0.mk (blk_below (g := gb201) (o := .cells #[.string a0_0, .int .i64 a0_1, .slice A0_2 l0_2.length c0_2] 24 (0, 0)) (by (with_reducible repeat (first | refine blk_drewN ?_ _ | refine blk_drew ?_ | refine blk_alloc ?_ _)); exact BK201.out) hb); have n1_ := Aside0.mk (below_step (by repeat (first | (with_reducible first | exact HB.out | apply below_alloc | apply pw_below_drewN | apply below_drew1 | refine below_set ?_ GE201.out) | exact HB.out)) hb); clear BK201; clear HB; have BK201 := n0_; have HB := n1_; clear n0_ n1_; (try clear hb); (try clear hb2); (try clear hk); (try clear hi)))
    go_ret2
    exact ⟨by first | rfl | (simp [errW_none, errW_some] <;> rfl) | (simp [*, errW_none, errW_some] <;> rfl), by repeat (first | (with_reducible first | exact HB.out | apply below_alloc | apply pw_below_drewN | apply below_drew1 | refine below_set ?_ GE201.out) | exact HB.out)⟩
  · rw [if_neg c4] at H
    have c4b0 : decide ((wrap64 (a1 + t202)) < 0) = false := decide_eq_false c4
    clear c4
    simp only [Option.some.injEq, Prod.mk.injEq] at H
    obtain ⟨rfl, rfl⟩ := H
    go_enter Try.func56, Try.ntmps56
    go_wp2_with (first | ((with_reducible refine gate_dst (N := 2) rfl ?_); refine box_event ?hg (N := 2) ?hd (cs := #[.string a0_0, .int .i64 a0_1, .slice A0_2 l0_2.length c0_2]) (t := 24) ?hr ?_; (case hd => rfl); (case hg => rfl); (case hr => first | (go_simp; done) | (go_simp; rfl)); intro gb201 hg w8 hbox hb; have n0_ := Aside0.mk (below_step (by repeat (first | (with_reducible first | exact HB.out | apply below_alloc | apply pw_below_drewN | apply below_drew1) | exact HB.out)) hb); have n1_ := Aside0.mk (hbox); have n2_ := Aside0.mk ((by rw [hg]; exact (below_size (by repeat (first | (with_reducible first | exact HB.out | apply below_alloc | apply pw_below_drewN | apply below_drew1) | exact HB.out))) : w.heap.size ≤ gb201)); have n3_ := Aside0.mk ((by rw [hg]; exact (below_size (by repeat (first | (with_reducible first | exact HB.out | apply below_alloc | apply pw_below_drewN | apply below_drew1) | exact HB.out))) : w.heap.size ≤ gb201)); clear HB; have HB := n0_; have BK201 := n1_; have GW201 := n2_; have GE201 := n3_; clear n0_ n1_ n2_ n3_; clear hb hbox hg; have hcz9_0 : w8.cell? ⟨gb201, 0, none⟩ = some (.string a0_0) := (blk_cell BK201.out 0).trans rfl; have hcz9_1 : w8.cell? ⟨gb201, 1, none⟩ = some (.int .i64 a0_1) := (blk_cell BK201.out 1).trans rfl; have hcz9_2 : w8.cell? ⟨gb201, 2, none⟩ = some (.slice A0_2 l0_2.length c0_2) := (blk_cell BK201.out 2).trans rfl; have hfz9_0 := blk_frozen BK201.out 0; have hfz9_1 := blk_frozen BK201.out 1; have hfz9_2 := blk_frozen BK201.out 2) | ((with_reducible refine gate_callee (f := 63) rfl ?_); refine goesL_ (some 10) rfl rfl Try.func63 (by kernel_rfl) rfl #[.agg #[.string a0_0, .int .i64 a0_1, .slice A0_2 l0_2.length c0_2], .int .i64 a1] rfl (by (try simp only [List.map_toArray, List.map_cons, List.map_nil]); first | done | rfl | (simp only [List.length_drop, List.length_take]; rfl)) ?_; (with_reducible refine (wageofficeref03_offset.calls k a0_0 a0_1 _ _ l0_2 a1 t202 _ ?side1 ?side2 A3.out).mono ?_); (case side1 => repeat (first | exact (Kd.C_below HR0_2.out HB.out) | (with_reducible refine Kd.C_alloc ?_ _) | (with_reducible refine Kd.C_drewN ?_ _) | (with_reducible refine Kd.C_drew ?_))); (case side2 => exact HC0_2.out); rintro e w10 ⟨rfl, hb⟩; refine ⟨_, rfl, ?_⟩; have n0_ := Aside0.mk (blk_below (g := gb201) (o := .cells #[.string a0_0, .int .i64 a0_1, .slice A0_2 l0_2.length c0_2] 24 (0, 0)) (by (with_reducible repeat (first | refine blk_drewN ?_ _ | refine blk_drew ?_ | refine blk_alloc ?_ _)); exact BK201.out) hb); have n1_ := Aside0.mk (below_step (by repeat (first | (with_reducible first | exact HB.out | apply below_alloc | apply pw_below_drewN | apply below_drew1 | refine below_set ?_ GE201.out) | exact HB.out)) hb); clear BK201; clear HB; have BK201 := n0_; have HB := n1_; clear n0_ n1_; (try clear hb); (try clear hb2); (try clear hk); (try clear hi)))
    go_ret2
    exact ⟨by first | rfl | (simp [errW_none, errW_some] <;> rfl) | (simp [*, errW_none, errW_some] <;> rfl), by repeat (first | (with_reducible first | exact HB.out | apply below_alloc | apply pw_below_drewN | apply below_drew1 | refine below_set ?_ GE201.out) | exact HB.out)⟩
def wageofficeref03_Day.f (a0 : Int) : Option (Bool) := if a0 ≥ 0 then (some (decide (a0 ≤ 36524))) else (some false)
set_option maxHeartbeats 8000000 in
set_option maxRecDepth 100000 in
theorem wageofficeref03_Day.calls (a0 : Int) (r : Bool) (w : World) (h : wageofficeref03_Day.f a0 = some r) :
    Calls Try.prog 55 #[.int .i64 a0] w fun e w' => e = .returned (.bool r) ∧ Drawn0 w w' := by
  have H : (if a0 ≥ 0 then (some (decide (a0 ≤ 36524))) else (some false)) = some r := h
  clear h
  by_cases c2 : a0 ≥ 0
  · rw [if_pos c2] at H
    have c2b0 : decide (0 ≤ a0) = true := decide_eq_true c2
    clear c2
    obtain rfl := Option.some.inj H
    go_enter Try.func55, Try.ntmps55
    go_wp2
    go_ret
    exact ⟨by first | rfl | (simp; done) | (simp [*]; done), by repeat (first | exact Drawn0.refl _ | apply Drawn0.step)⟩
  · rw [if_neg c2] at H
    have c2b0 : decide (0 ≤ a0) = false := decide_eq_false c2
    clear c2
    obtain rfl := Option.some.inj H
    go_enter Try.func55, Try.ntmps55
    go_wp2
    go_ret
    exact ⟨by first | rfl | (simp; done) | (simp [*]; done), by repeat (first | exact Drawn0.refl _ | apply Drawn0.step)⟩
end Go.Proofs.Ytnpceipoakclbaa.Q

namespace Go.Proofs.Ytnpceipoakclbaa.Q
open Go.RowKit Go.Proofs.YtnpceipoakclbaaW.PrintWords Go.Proofs.YtnpceipoakclbaaW.PrintLast Go.Proofs.YtnpceipoakclbaaW.PrintMore
attribute [local go_sem] max2_int min2_int max_two min_two max_three min_three max_four min_four   -- for this text's walks alone
set_option linter.unusedVariables false
set_option linter.unusedSimpArgs false
def wageofficeref03_count.l0 : Nat → List (S46) → Int → Int → Option ((List (S46)))
  | 0, _, _, _ => none
  | k + 1, x0, x1, x5 => if x5 > 0 then (if 0 ≤ (wrap64 (x5 - 1)) then (if (wrap64 (x5 - 1)) < (x0.length : Int) then (if ((rd_T46 x0 (wrap64 (x5 - 1))).f0) ≥ x1 then (wageofficeref03_count.l0 k x0 x1 (wrap64 (x5 - 1))) else (if x5 < (x0.length : Int) then (if 0 ≤ x5 then (if ((rd_T46 x0 x5).f0) = x1 then (none) else ((some (([] : List (S46)) : List (S46))).bind fun y104 => (if x5 ≤ (x0.length : Int) then ((some (x0.take (x5 : Int).toNat : List (S46))).bind fun y107 => (if y104.length + y107.length < 8796093022208 then ((some (y104 ++ y107 : List (S46))).bind fun y111 => ((some (([(⟨x1, 1⟩ : S46)] : List (S46)) : List (S46))).bind fun y114 => (if y111.length + y114.length < 8796093022208 then ((some (y111 ++ y114 : List (S46))).bind fun y117 => ((some (x0.drop (x5 : Int).toNat : List (S46))).bind fun y120 => (if y117.length + y120.length < 8796093022208 then (some (y117 ++ y120)) else (none)))) else (none)))) else (none))) else (none)))) else (none)) else ((some (([] : List (S46)) : List (S46))).bind fun y127 => (if 0 ≤ x5 then (if x5 ≤ (x0.length : Int) then ((some (x0.take (x5 : Int).toNat : List (S46))).bind fun y130 => (if y127.length + y130.length < 8796093022208 then ((some (y127 ++ y130 : List (S46))).bind fun y134 => ((some (([(⟨x1, 1⟩ : S46)] : List (S46)) : List (S46))).bind fun y137 => (if y134.length + y137.length < 8796093022208 then ((some (y134 ++ y137 : List (S46))).bind fun y140 => ((some (x0.drop (x5 : Int).toNat : List (S46))).bind fun y143 => (if y140.length + y143.length < 8796093022208 then (some (y140 ++ y143)) else (none)))) else (none)))) else (none))) else (none)) else (none))))) else (none)) else (none)) else (if x5 < (x0.length : Int) then (if 0 ≤ x5 then (if ((rd_T46 x0 x5).f0) = x1 then (none) else ((some (([] : List (S46)) : List (S46))).bind fun y152 => (if x5 ≤ (x0.length : Int) then ((some (x0.take (x5 : Int).toNat : List (S46))).bind fun y155 => (if y152.length + y155.length < 8796093022208 then ((some (y152 ++ y155 : List (S46))).bind fun y159 => ((some (([(⟨x1, 1⟩ : S46)] : List (S46)) : List (S46))).bind fun y162 => (if y159.length + y162.length < 8796093022208 then ((some (y159 ++ y162 : List (S46))).bind fun y165 => ((some (x0.drop (x5 : Int).toNat : List (S46))).bind fun y168 => (if y165.length + y168.length < 8796093022208 then (some (y165 ++ y168)) else (none)))) else (none)))) else (none))) else (none)))) else (none)) else ((some (([] : List (S46)) : List (S46))).bind fun y175 => (if 0 ≤ x5 then (if x5 ≤ (x0.length : Int) then ((some (x0.take (x5 : Int).toNat : List (S46))).bind fun y178 => (if y175.length + y178.length < 8796093022208 then ((some (y175 ++ y178 : List (S46))).bind fun y182 => ((some (([(⟨x1, 1⟩ : S46)] : List (S46)) : List (S46))).bind fun y185 => (if y182.length + y185.length < 8796093022208 then ((some (y182 ++ y185 : List (S46))).bind fun y188 => ((some (x0.drop (x5 : Int).toNat : List (S46))).bind fun y191 => (if y188.length + y191.length < 8796093022208 then (some (y188 ++ y191)) else (none)))) else (none)))) else (none))) else (none)) else (none))))
def wageofficeref03_count.f (k : Nat) (l0 : List (S46)) (a1 : Int) : Option ((List (S46))) := wageofficeref03_count.l0 k l0 a1 (l0.length : Int)
theorem wageofficeref03_count.mono_l : ∀ k, (∀ y0 y1 y2, LeO (wageofficeref03_count.l0 k y0 y1 y2) (wageofficeref03_count.l0 (k + 1) y0 y1 y2))
  | 0 => fun _ _ _ r h => by simp [wageofficeref03_count.l0] at h
  | k + 1 => by
    have ih0 := wageofficeref03_count.mono_l k
    · intro y0 y1 y2
      unfold wageofficeref03_count.l0
      repeat' first
      | (with_reducible exact ih0 _ _ _)
      | (with_reducible exact LeO.refl _)
      | (with_reducible exact LeO.none _)
      | (with_reducible refine LeO.ite ?_ ?_)
      | (with_reducible refine LeO.bind ?_ (fun _ => ?_))
      | exact ih0 _ _ _
      | exact LeO.none _
      | refine LeO.ite ?_ ?_
      | refine LeO.bind ?_ (fun _ => ?_)
theorem wageofficeref03_count.mono : ∀ a0 a1 k, LeO (wageofficeref03_count.f k a0 a1) (wageofficeref03_count.f (k + 1) a0 a1) := by
  intro a0 a1 k
  have ih0 := wageofficeref03_count.mono_l k
  unfold wageofficeref03_count.f
  repeat' first
      | (with_reducible exact ih0 _ _ _)
      | (with_reducible exact LeO.refl _)
      | (with_reducible exact LeO.none _)
      | (with_reducible refine LeO.ite ?_ ?_)
      | (with_reducible refine LeO.bind ?_ (fun _ => ?_))
      | exact ih0 _ _ _
      | exact LeO.none _
      | refine LeO.ite ?_ ?_
      | refine LeO.bind ?_ (fun _ => ?_)
def wageofficeref03_count.T7 : Bool × List (List Nat × List Nat) := (true, [([], []), ([], []), ([], []), ([1, 2], [1, 2]), ([0, 3], [0, 3]), ([], []), ([5], [5]), ([6], [6]), ([4, 7, 4], [4, 7]), ([], []), ([], []), ([9, 10], [9, 10]), ([8, 11, 8], [8, 11]), ([12, 12, 0, 1, 2, 3, 4, 5, 6, 7, 8, 9, 10, 11, 12], [12])])
def wageofficeref03_count.B7 : List Nat := [0, 0, 0, 6, 15, 0, 32, 96, 255, 0, 0, 1536, 4095, 8191]
theorem wageofficeref03_count.tab7 : rtab .any (opsOf Try.f70 7) = wageofficeref03_count.T7 := by kernel_rfl
theorem wageofficeref03_count.bits7 : waitsOk wageofficeref03_count.T7.2 wageofficeref03_count.B7 = true := by kernel_rfl
set_option maxHeartbeats 8000000 in
set_option maxRecDepth 100000 in
theorem wageofficeref03_count.calls (k : Nat) (A0 : Option Addr) (c0 : Nat) (l0 : List (S46)) (a1 : Int) (r : List (S46)) (w : World) (hr0 : Kd.C k46 w A0 l0.length l0) (hc0 : l0.length ≤ c0) (h : wageofficeref03_count.f k l0 a1 = some r) :
    Calls Try.prog 70 #[.slice A0 l0.length c0, .int .i64 a1] w fun e w' => ∃ v0_ : Value, e = .returned (v0_) ∧ Kd.R k46 46 w' w.heap.size (fun _ => True) v0_ r ∧ Below w.heap.size w w' := by
  have hu46 := Try.underlying46
  have HR0 := Aside0.mk hr0
  have HC0 := Aside0.mk hc0
  clear hr0 hc0
  have HB := Aside0.mk (Below.refl w.heap.size w)
  have H : (wageofficeref03_count.l0 k l0 a1 (l0.length : Int)) = some r := h
  clear h
  have H' := Aside0.mk H
  clear H
  go_enter Try.func70, Try.ntmps70
  go_wp2
  go_loopg [5] k (fun kq v5 w' => ∃ (x5_1 : Int), v5 = .int .i64 x5_1 ∧ Aside0 (wageofficeref03_count.l0 kq l0 a1 x5_1 = some r) ∧ Aside0 (kq ≤ k) ∧ Aside0 (Below w.heap.size w w'))
  case atStart => exact ⟨((l0.length : Int)), (by first | rfl | (simp; done) | (simp [*]; done)), H', ⟨Nat.le_refl _⟩, ⟨by repeat (first | (with_reducible first | exact HB.out | apply below_alloc | apply pw_below_drewN | apply below_drew1) | exact HB.out)⟩⟩
  case round =>
    clear H'
    try clear p2
    obtain ⟨x5_1, rfl, HA, HK1, HB⟩ := hrel
    cases gk with
    | zero => exact absurd HA.out (by simp [wageofficeref03_count.l0])
    | succ k1 =>
      have H := HA.out
      clear HA
      simp only [wageofficeref03_count.l0] at H
      by_cases c3 : x5_1 > 0
      · rw [if_pos c3] at H
        have c3b0 : decide (0 < x5_1) = true := decide_eq_true c3
        clear c3
        obtain ⟨ji4, hji4⟩ : ∃ j_ : Int, (wrap64 (x5_1 - 1)) = j_ := ⟨_, rfl⟩
        replace H : (if 0 ≤ (ji4) then (if (ji4) < (l0.length : Int) then (if ((rd_T46 l0 (ji4)).f0) ≥ a1 then (wageofficeref03_count.l0 k1 l0 a1 ji4) else (if x5_1 < (l0.length : Int) then (if 0 ≤ x5_1 then (if ((rd_T46 l0 x5_1).f0) = a1 then (none) else ((some (([] : List (S46)) : List (S46))).bind fun y104 => (if x5_1 ≤ (l0.length : Int) then ((some (l0.take (x5_1 : Int).toNat : List (S46))).bind fun y107 => (if y104.length + y107.length < 8796093022208 then ((some (y104 ++ y107 : List (S46))).bind fun y111 => ((some (([(⟨a1, 1⟩ : S46)] : List (S46)) : List (S46))).bind fun y114 => (if y111.length + y114.length < 8796093022208 then ((some (y111 ++ y114 : List (S46))).bind fun y117 => ((some (l0.drop (x5_1 : Int).toNat : List (S46))).bind fun y120 => (if y117.length + y120.length < 8796093022208 then (some (y117 ++ y120)) else (none)))) else (none)))) else (none))) else (none)))) else (none)) else ((some (([] : List (S46)) : List (S46))).bind fun y127 => (if 0 ≤ x5_1 then (if x5_1 ≤ (l0.length : Int) then ((some (l0.take (x5_1 : Int).toNat : List (S46))).bind fun y130 => (if y127.length + y130.length < 8796093022208 then ((some (y127 ++ y130 : List (S46))).bind fun y134 => ((some (([(⟨a1, 1⟩ : S46)] : List (S46)) : List (S46))).bind fun y137 => (if y134.length + y137.length < 8796093022208 then ((some (y134 ++ y137 : List (S46))).bind fun y140 => ((some (l0.drop (x5_1 : Int).toNat : List (S46))).bind fun y143 => (if y140.length + y143.length < 8796093022208 then (some (y140 ++ y143)) else (none)))) else (none)))) else (none))) else (none)) else (none))))) else (none)) else (none)) = some r := by first | (rw [hji4] at H; exact H) | (simp only [hji4] at H ⊢; exact H)
        have hji4w : (IntKind.i64.wrap (x5_1 - 1)) = ji4 := (i64_w _).trans hji4
        by_cases c5 : 0 ≤ (ji4)
        · rw [if_pos c5] at H
          have c5b0 : decide (0 ≤ (ji4)) = true := decide_eq_true c5
          clear c5
          by_cases c6 : (ji4) < (l0.length : Int)
          · rw [if_pos c6] at H
            have c6b0 : decide ((ji4) < (l0.length : Int)) = true := decide_eq_true c6
            clear c6
            by_cases c7 : ((rd_T46 l0 (ji4)).f0) ≥ a1
            · rw [if_pos c7] at H
              have c7b0 : decide (a1 ≤ ((rd_T46 l0 (ji4)).f0)) = true := decide_eq_true c7
              clear c7
              have H' := Aside0.mk H
              clear H
              have p101 : 0 ≤ ((ji4) : Int) := of_decide_eq_true (by first | (with_reducible assumption) | assumption)
              have q101 : (ji4) < (l0.length : Int) := of_decide_eq_true (by first | (with_reducible assumption) | assumption)
              obtain ⟨ad101, e101, hx101_0, hx101_1⟩ := at_T46 HR0.out (ji4) p101 q101
              cases e101
              replace hx101_0 := (HB.out.cell (World.block_lt_of_cell? w _ hx101_0)).trans hx101_0
              replace hx101_1 := (HB.out.cell (World.block_lt_of_cell? w _ hx101_1)).trans hx101_1
              replace p101 := eq_true p101
              replace q101 := eq_true q101
              go_wp2
              go_roundg k1
              case measure => have := HK1.out; omega
              case rel => exact ⟨(ji4), (by first | rfl | (simp; done) | (simp only [← hji4] <;> (first | rfl | simp)) | (simp [*]; done)), H', ⟨by have := HK1.out; omega⟩, ⟨by repeat (first | (with_reducible first | exact HB.out | apply below_alloc | apply pw_below_drewN | apply below_drew1) | exact HB.out)⟩⟩
            · rw [if_neg c7] at H
              have c7b0 : decide (a1 ≤ ((rd_T46 l0 (ji4)).f0)) = false := decide_eq_false c7
              clear c7
              by_cases c8 : x5_1 < (l0.length : Int)
              · rw [if_pos c8] at H
                have c8b0 : decide (x5_1 < (l0.length : Int)) = true := decide_eq_true c8
                clear c8
                by_cases c9 : 0 ≤ x5_1
                · rw [if_pos c9] at H
                  have c9b0 : decide (0 ≤ x5_1) = true := decide_eq_true c9
                  clear c9
                  by_cases c10 : ((rd_T46 l0 x5_1).f0) = a1
                  · rw [if_pos c10] at H
                    have c10b0 : (((rd_T46 l0 x5_1).f0) == a1) = true := beq_iff_eq.mpr c10
                    have c10b1 : (((rd_T46 l0 x5_1).f0) != a1) = false := bne_eq_false_iff_eq.mpr c10
                    clear c10
                    exact absurd H (by simp)
                  · rw [if_neg c10] at H
                    have c10b0 : (((rd_T46 l0 x5_1).f0) == a1) = false := beq_eq_false_iff_ne.mpr c10
                    have c10b1 : (((rd_T46 l0 x5_1).f0) != a1) = true := bne_iff_ne.mpr c10
                    obtain ⟨y104, hy104⟩ : ∃ y_ : List (S46), y_ = (([] : List (S46))) := ⟨_, rfl⟩
                    replace H : (if x5_1 ≤ (l0.length : Int) then ((some (l0.take (x5_1 : Int).toNat : List (S46))).bind fun y107 => (if y104.length + y107.length < 8796093022208 then ((some (y104 ++ y107 : List (S46))).bind fun y111 => ((some (([(⟨a1, 1⟩ : S46)] : List (S46)) : List (S46))).bind fun y114 => (if y111.length + y114.length < 8796093022208 then ((some (y111 ++ y114 : List (S46))).bind fun y117 => ((some (l0.drop (x5_1 : Int).toNat : List (S46))).bind fun y120 => (if y117.length + y120.length < 8796093022208 then (some (y117 ++ y120)) else (none)))) else (none)))) else (none))) else (none)) = some r := by first | (rw [hy104]; with_reducible exact H) | (have H2_ := (Option.bind_some _ _).symm.trans H; rw [hy104]; with_reducible exact H2_) | (have H2_ := (Option.bind_some _ _).symm.trans H; with_reducible exact H2_) | with_reducible exact H | (rw [hy104]; exact H) | exact H
                    have Ny104 := Aside0.mk hy104
                    clear hy104
                    have c11b0 := eq_true (of_decide_eq_true (by first | (with_reducible assumption) | assumption) : 0 ≤ x5_1)
                    by_cases c12 : x5_1 ≤ (l0.length : Int)
                    · rw [if_pos c12] at H
                      have c12b0 := eq_true c12
                      have c12b1 : decide (x5_1 ≤ (l0.length : Int)) = true := decide_eq_true c12
                      clear c12
                      obtain ⟨y107, hy107⟩ : ∃ y_ : List (S46), y_ = (l0.take (x5_1 : Int).toNat) := ⟨_, rfl⟩
                      replace H : (if y104.length + y107.length < 8796093022208 then ((some (y104 ++ y107 : List (S46))).bind fun y111 => ((some (([(⟨a1, 1⟩ : S46)] : List (S46)) : List (S46))).bind fun y114 => (if y111.length + y114.length < 8796093022208 then ((some (y111 ++ y114 : List (S46))).bind fun y117 => ((some (l0.drop (x5_1 : Int).toNat : List (S46))).bind fun y120 => (if y117.length + y120.length < 8796093022208 then (some (y117 ++ y120)) else (none)))) else (none)))) else (none)) = some r := by first | (rw [hy107]; with_reducible exact H) | (have H2_ := (Option.bind_some _ _).symm.trans H; rw [hy107]; with_reducible exact H2_) | (have H2_ := (Option.bind_some _ _).symm.trans H; with_reducible exact H2_) | with_reducible exact H | (rw [hy107]; exact H) | exact H
                      have Ny107 := Aside0.mk hy107
                      clear hy107
                      by_cases c13 : y104.length + y107.length < 8796093022208
                      · rw [if_pos c13] at H
                        have LMc13 := Aside0.mk c13
                        clear c13
                        obtain ⟨y111, hy111⟩ : ∃ y_ : List (S46), y_ = (y104 ++ y107) := ⟨_, rfl⟩
                        replace H : ((some (([(⟨a1, 1⟩ : S46)] : List (S46)) : List (S46))).bind fun y114 => (if y111.length + y114.length < 8796093022208 then ((some (y111 ++ y114 : List (S46))).bind fun y117 => ((some (l0.drop (x5_1 : Int).toNat : List (S46))).bind fun y120 => (if y117.length + y120.length < 8796093022208 then (some (y117 ++ y120)) else (none)))) else (none))) = some r := by first | (rw [hy111]; with_reducible exact H) | (have H2_ := (Option.bind_some _ _).symm.trans H; rw [hy111]; with_reducible exact H2_) | (have H2_ := (Option.bind_some _ _).symm.trans H; with_reducible exact H2_) | with_reducible exact H | (rw [hy111]; exact H) | exact H
                        have Ny111 := Aside0.mk hy111
                        clear hy111
                        obtain ⟨y114, hy114⟩ : ∃ y_ : List (S46), y_ = (([(⟨a1, 1⟩ : S46)] : List (S46))) := ⟨_, rfl⟩
                        replace H : (if y111.length + y114.length < 8796093022208 then ((some (y111 ++ y114 : List (S46))).bind fun y117 => ((some (l0.drop (x5_1 : Int).toNat : List (S46))).bind fun y120 => (if y117.length + y120.length < 8796093022208 then (some (y117 ++ y120)) else (none)))) else (none)) = some r := by first | (rw [hy114]; with_reducible exact H) | (have H2_ := (Option.bind_some _ _).symm.trans H; rw [hy114]; with_reducible exact H2_) | (have H2_ := (Option.bind_some _ _).symm.trans H; with_reducible exact H2_) | with_reducible exact H | (rw [hy114]; exact H) | exact H
                        have Ny114 := Aside0.mk hy114
                        clear hy114
                        by_cases c14 : y111.length + y114.length < 8796093022208
                        · rw [if_pos c14] at H
                          have LMc14 := Aside0.mk c14
                          clear c14
                          obtain ⟨y117, hy117⟩ : ∃ y_ : List (S46), y_ = (y111 ++ y114) := ⟨_, rfl⟩
                          replace H : ((some (l0.drop (x5_1 : Int).toNat : List (S46))).bind fun y120 => (if y117.length + y120.length < 8796093022208 then (some (y117 ++ y120)) else (none))) = some r := by first | (rw [hy117]; with_reducible exact H) | (have H2_ := (Option.bind_some _ _).symm.trans H; rw [hy117]; with_reducible exact H2_) | (have H2_ := (Option.bind_some _ _).symm.trans H; with_reducible exact H2_) | with_reducible exact H | (rw [hy117]; exact H) | exact H
                          have Ny117 := Aside0.mk hy117
                          clear hy117
                          have c15b0 := eq_true (of_decide_eq_true (by first | (with_reducible assumption) | assumption) : 0 ≤ x5_1)
                          have c16b0 := eq_true (of_decide_eq_true (by first | (with_reducible assumption) | assumption) : x5_1 ≤ (l0.length : Int))
                          obtain ⟨y120, hy120⟩ : ∃ y_ : List (S46), y_ = (l0.drop (x5_1 : Int).toNat) := ⟨_, rfl⟩
                          replace H : (if y117.length + y120.length < 8796093022208 then (some (y117 ++ y120)) else (none)) = some r := by first | (rw [hy120]; with_reducible exact H) | (have H2_ := (Option.bind_some _ _).symm.trans H; rw [hy120]; with_reducible exact H2_) | (have H2_ := (Option.bind_some _ _).symm.trans H; with_reducible exact H2_) | with_reducible exact H | (rw [hy120]; exact H) | exact H
                          have Ny120 := Aside0.mk hy120
                          clear hy120
                          by_cases c17 : y117.length + y120.length < 8796093022208
                          · rw [if_pos c17] at H
                            have LMc17 := Aside0.mk c17
                            clear c17
                            obtain ⟨y124, hy124⟩ : ∃ y_ : List (S46), y_ = (y117 ++ y120) := ⟨_, rfl⟩
                            replace H : (some y124) = some r := by first | (rw [hy124]; with_reducible exact H) | (have H2_ := (Option.bind_some _ _).symm.trans H; rw [hy124]; with_reducible exact H2_) | (have H2_ := (Option.bind_some _ _).symm.trans H; with_reducible exact H2_) | with_reducible exact H | (rw [hy124]; exact H) | exact H
                            have Ny124 := Aside0.mk hy124
                            clear hy124
                            obtain rfl := Option.some.inj H
                            have p101 : 0 ≤ ((ji4) : Int) := of_decide_eq_true (by first | (with_reducible assumption) | assumption)
                            have q101 : (ji4) < (l0.length : Int) := of_decide_eq_true (by first | (with_reducible assumption) | assumption)
                            obtain ⟨ad101, e101, hx101_0, hx101_1⟩ := at_T46 HR0.out (ji4) p101 q101
                            cases e101
                            replace hx101_0 := (HB.out.cell (World.block_lt_of_cell? w _ hx101_0)).trans hx101_0
                            replace hx101_1 := (HB.out.cell (World.block_lt_of_cell? w _ hx101_1)).trans hx101_1
                            replace p101 := eq_true p101
                            replace q101 := eq_true q101
                            have p102 : 0 ≤ (x5_1 : Int) := of_decide_eq_true (by first | (with_reducible assumption) | assumption)
                            have q102 : x5_1 < (l0.length : Int) := of_decide_eq_true (by first | (with_reducible assumption) | assumption)
                            obtain ⟨ad102, e102, hx102_0, hx102_1⟩ := at_T46 HR0.out x5_1 p102 q102
                            obtain rfl : ad101 = ad102 := (by injection e102)
                            replace hx102_0 := (HB.out.cell (World.block_lt_of_cell? w _ hx102_0)).trans hx102_0
                            replace hx102_1 := (HB.out.cell (World.block_lt_of_cell? w _ hx102_1)).trans hx102_1
                            replace p102 := eq_true p102
                            replace q102 := eq_true q102
                            try go_wp2
                            have n0_ := Aside0.mk (below_drew1 HB.out)
                            clear HB
                            have HB := n0_
                            clear n0_
                            have q19 : (x5_1 : Int) ≤ ((l0.length : Int) : Int) := of_decide_eq_true (by first | (with_reducible assumption) | assumption)
                            obtain ⟨i019, hi019, _, hsz19, _⟩ := info_parts info46
                            have hroom19 : l0.length ≤ c0 := HC0.out
                            have hC19 : Kd.C k46 _ (some ad101) l0.length l0 := HR0.out
                            have hcut19 := cut_to (P := Try.prog) 35 46 .i64 Try.underlying35 hi019 (some ad101) l0.length c0 x5_1 (of_decide_eq_true (by first | (with_reducible assumption) | assumption)) q19 hroom19
                            have hr19 := Kd.C_take (m := (x5_1 : Int).toNat) hC19 (by omega)
                            have hy19 : y107.length = (x5_1 : Int).toNat := (by rw [Ny107.out, List.length_take]; omega)
                            rw [← Ny107.out] at hr19
                            rw [← hy19] at hcut19
                            have HR110 := Aside0.mk hr19
                            have HC110 := Aside0.mk (show y107.length ≤ c0 from by omega)
                            clear hr19 hC19 hroom19 hi019 hsz19
                            have KY19 := Aside0.mk hy19
                            clear hy19
                            replace q19 := eq_true q19
                            have q20 : (x5_1 : Int) ≤ ((l0.length : Int) : Int) := of_decide_eq_true (by first | (with_reducible assumption) | assumption)
                            obtain ⟨i020, hi020, _, hsz20, _⟩ := info_parts info46
                            have hroom20 : l0.length ≤ c0 := HC0.out
                            have hC20 : Kd.C k46 _ (some ad101) l0.length l0 := HR0.out
                            have q020 : (0 : Int) ≤ (x5_1 : Int) := of_decide_eq_true (by first | (with_reducible assumption) | assumption)
                            have hcut20 := cut_from (P := Try.prog) 35 46 .i64 Try.underlying35 hi020 2 hsz20 (some ad101) l0.length c0 x5_1 q020 q20
                            have hr20 := Kd.C_drop (m := (x5_1 : Int).toNat) (c := c0) hC20 (by omega) hroom20
                            obtain ⟨A20, hA20⟩ : ∃ A1, A1 = (if c0 = (x5_1 : Int).toNat then (some ad101) else ((some ad101) : Option Addr).map (·.add ((x5_1 : Int).toNat * 2))) := ⟨_, rfl⟩
                            obtain ⟨c20, hc20⟩ : ∃ c1, c1 = c0 - (x5_1 : Int).toNat := ⟨_, rfl⟩
                            have hy20 : y120.length = l0.length - (x5_1 : Int).toNat := (by rw [Ny120.out, List.length_drop] <;> omega)
                            rw [show (l0).drop (x5_1 : Int).toNat = y120 from Ny120.out.symm] at hr20
                            replace hr20 : Kd.C k46 _ A20 y120.length y120 := (by rw [hA20]; exact hr20)
                            rw [← hy20, ← hA20, ← hc20] at hcut20
                            have HR123 := Aside0.mk hr20
                            have HC123 := Aside0.mk (show y120.length ≤ c20 from by rw [hy20, hc20]; exact Nat.sub_le_sub_right hroom20 _)
                            clear hr20 hC20 hroom20 hi020 hsz20 hc20
                            have KY20 := Aside0.mk hy20
                            have KA20 := Aside0.mk hA20
                            clear hy20 hA20
                            replace q20 := eq_true q20
                            refine start_ (n := 14) (S := fun w' => True) (ds := []) #[false, false, false, false, false, false, false, false, false, false, false, false, false, false] (by kernel_rfl) rfl rfl trivial (fun hHeld => ?_); refine with_tabW wageofficeref03_count.tab7 wageofficeref03_count.bits7 (fun HT_ HW_ => ?_)
                            generalize wr.drew = w18 at HB HR110 HR123 hHeld ⊢
                            refine pure_ (i := 1) (N := some 45) (v := ?_) (a' := ?_) #[false, true, false, false, false, false, false, false, false, false, false, false, false, false] rfl rfl (any_of HT_.out (by kernel_rfl)) (fun _ _ _ h => h) (Or.inl ⟨by rfl, ?_⟩) ?_ ?_
                            rotate_left
                            · intro w'
                              go_simp
                              with_reducible rfl
                            rotate_left
                            · simp only [Act.put, List.setIfInBounds_toArray, List.set_cons_zero, List.set_cons_succ, i64_w, i32_w]
                              rfl
                            refine pure_ (i := 2) (N := some 46) (v := ?_) (a' := ?_) #[false, true, true, false, false, false, false, false, false, false, false, false, false, false] rfl rfl (any_of HT_.out (by kernel_rfl)) (fun _ _ _ h => h) (Or.inl ⟨by rfl, ?_⟩) ?_ ?_
                            rotate_left
                            · intro w'
                              go_simp
                              with_reducible rfl
                            rotate_left
                            · simp only [Act.put, List.setIfInBounds_toArray, List.set_cons_zero, List.set_cons_succ, i64_w, i32_w]
                              rfl
                            refine pure_ (i := 3) (N := some 47) (v := ?_) (a' := ?_) #[false, true, true, true, false, false, false, false, false, false, false, false, false, false] rfl rfl (any_of HT_.out (by kernel_rfl)) (fun _ _ _ h => h) (Or.inl ⟨by rfl, ?_⟩) ?_ ?_
                            rotate_left
                            · intro w'
                              go_simp
                              with_reducible rfl
                            rotate_left
                            · simp only [Act.put, List.setIfInBounds_toArray, List.set_cons_zero, List.set_cons_succ, i64_w, i32_w]
                              rfl
                            refine pure_ (i := 5) (N := some 49) (v := ?_) (a' := ?_) #[false, true, true, true, false, true, false, false, false, false, false, false, false, false] rfl rfl (any_of HT_.out (by kernel_rfl)) (fun _ _ _ h => h) (Or.inl ⟨by rfl, ?_⟩) ?_ ?_
                            rotate_left
                            · intro w'
                              go_simp
                              with_reducible rfl
                            rotate_left
                            · simp only [Act.put, List.setIfInBounds_toArray, List.set_cons_zero, List.set_cons_succ, i64_w, i32_w]
                              rfl
                            refine pure_ (i := 6) (N := some 50) (v := ?_) (a' := ?_) #[false, true, true, true, false, true, true, false, false, false, false, false, false, false] rfl rfl (any_of HT_.out (by kernel_rfl)) (fun _ _ _ h => h) (Or.inl ⟨by rfl, ?_⟩) ?_ ?_
                            rotate_left
                            · intro w'
                              go_simp
                              with_reducible rfl
                            rotate_left
                            · simp only [Act.put, List.setIfInBounds_toArray, List.set_cons_zero, List.set_cons_succ, i64_w, i32_w]
                              rfl
                            refine pure_ (i := 9) (N := some 53) (v := ?_) (a' := ?_) #[false, true, true, true, false, true, true, false, false, true, false, false, false, false] rfl rfl (any_of HT_.out (by kernel_rfl)) (fun _ _ _ h => h) (Or.inl ⟨by rfl, ?_⟩) ?_ ?_
                            rotate_left
                            · intro w'
                              go_simp
                              with_reducible rfl
                            rotate_left
                            · simp only [Act.put, List.setIfInBounds_toArray, List.set_cons_zero, List.set_cons_succ, i64_w, i32_w]
                              rfl
                            refine pure_ (i := 10) (N := some 54) (v := ?_) (a' := ?_) #[false, true, true, true, false, true, true, false, false, true, true, false, false, false] rfl rfl (any_of HT_.out (by kernel_rfl)) (fun _ _ _ h => h) (Or.inl ⟨by rfl, ?_⟩) ?_ ?_
                            rotate_left
                            · intro w'
                              go_simp
                              with_reducible rfl
                            rotate_left
                            · simp only [Act.put, List.setIfInBounds_toArray, List.set_cons_zero, List.set_cons_succ, i64_w, i32_w]
                              rfl
                            refine pure_ (i := 11) (N := some 55) (v := ?_) (a' := ?_) #[false, true, true, true, false, true, true, false, false, true, true, true, false, false] rfl rfl (any_of HT_.out (by kernel_rfl)) (fun _ _ _ h => h) (Or.inl ⟨by rfl, ?_⟩) ?_ ?_
                            rotate_left
                            · intro w'
                              go_simp
                              with_reducible rfl
                            rotate_left
                            · simp only [Act.put, List.setIfInBounds_toArray, List.set_cons_zero, List.set_cons_succ, i64_w, i32_w]
                              rfl
                            refine join_ (σ := Value × Value × Value) 3 #[true, true, true, true, true, true, true, true, false, true, true, true, false, false] (fun s_ => [(44, s_.1), (48, s_.2.1), (51, s_.2.2)]) (fun s_ w' => (Kd.R k46 46 w' w.heap.size (fun k_ => some k_ ≠ (s_.2.2 : Value).ownBlock) s_.2.1 y111) ∧ (Kd.R k46 46 w' w.heap.size (fun k_ => some k_ ≠ (s_.2.1 : Value).ownBlock) s_.2.2 y114) ∧ (Below w.heap.size w w')) ?_ ?_
                            rotate_left
                            · intro hCont
                              refine two_ (i := 0) (j := 7) (Ni := some 44) (Nj := some 51) #[true, true, true, true, false, true, true, false, false, true, true, true, false, false] #[false, true, true, true, false, true, true, true, false, true, true, true, false, false] rfl rfl rfl rfl (two_of HT_.out (by kernel_rfl)) (by decide) (by decide) (fun K hK => ?_) (fun K hK => ?_)
                              · skip
                                refine Kd.R_lit_step k46 _ 46 ?hg (N := 44) ?hd (xs := ([] : List (S46))) (inner := []) (ok := fun _ => True) (okp := fun _ => True) ?hr ?hp (fun _ hk => hk) trivial (Below.refl _ _) (Nat.le_refl _) (by simp) ?_; (case hd => rfl); (case hg => rfl); (case hr => first | (go_simp; done) | (go_simp; rfl)); (case hp => exact (Reps.none _ _))
                                intro v105 w21 ho22 hb hg_ hnew_
                                clear hg_ hnew_
                                (first | rw [← Ny104.out] at ho22 | (simp only [Int.reduceToNat] at ho22; rw [← Ny104.out] at ho22))
                                have n0_ := Aside0.mk (Kd.R_lower ho22 (below_size (by repeat (first | (with_reducible first | exact HB.out | apply below_alloc | apply pw_below_drewN | apply below_drew1) | exact HB.out))))
                                have n1_ := Aside0.mk (below_step (by repeat (first | (with_reducible first | exact HB.out | apply below_alloc | apply pw_below_drewN | apply below_drew1) | exact HB.out)) hb)
                                clear HB
                                have HO106 := n0_
                                have HB := n1_
                                clear n0_ n1_
                                clear hb ho22
                                refine hK.out _ _ trivial (fun hHeld => ?_)
                                clear hK K
                                refine norm_ (a' := ?_) ?_ ?_
                                rotate_left
                                · show Act.put _ (some 44) _ = _
                                  simp only [Act.put, List.setIfInBounds_toArray, List.set_cons_zero, List.set_cons_succ, i64_w, i32_w]
                                  rfl
                                refine two_ (i := 4) (j := 7) (Ni := some 48) (Nj := some 51) #[true, true, true, true, true, true, true, false, false, true, true, true, false, false] #[true, true, true, true, false, true, true, true, false, true, true, true, false, false] rfl rfl rfl rfl (two_of HT_.out (by kernel_rfl)) (by decide) (by decide) (fun K hK => ?_) (fun K hK => ?_)
                                · skip
                                  refine Kd.R_append_rows_step k46 (w0 := w) w.heap.size (by rfl) (.tmp 44) (.tmp 47) 35 46 (.agg #[(.int .i64 0), (.int .i64 0)]) 16 rfl Try.underlying35 info46 rfl (by decide) (by omega) v105 y104 y107 _ _ _ (fun _ => True) (fun _ => False) rfl rfl ?aO ?aR (fun _ _ h => h) (fun _ h => h.elim) ?aF ?aB ?aS ?aL ?_
                                  (case aR => repeat (first | exact (Kd.C_below HR110.out HB.out) | (with_reducible refine Kd.C_alloc ?_ _) | (with_reducible refine Kd.C_drewN ?_ _) | (with_reducible refine Kd.C_drew ?_)))
                                  (case aB => exact (by repeat (first | (with_reducible first | exact HB.out | apply below_alloc | apply pw_below_drewN | apply below_drew1) | exact HB.out)))
                                  (case aF => exact (fun _ _ => trivial))
                                  (case aO => exact (by (with_reducible repeat (first | apply Kd.R_alloc | apply Kd.R_drewN | apply Kd.R_drew)); exact HO106.out))
                                  (case aS => exact (below_size (by repeat (first | (with_reducible first | exact HB.out | apply below_alloc | apply pw_below_drewN | apply below_drew1) | exact HB.out))))
                                  (case aL => have := LMc13.out; omega)
                                  intro v112 w23 ho hb hg hat
                                  rw [← Ny111.out] at ho
                                  have n0_ := Aside0.mk (hb)
                                  have n1_ := Aside0.mk (ho)
                                  clear HB
                                  clear HO106
                                  have HB := n0_
                                  have HO113 := n1_
                                  clear n0_ n1_
                                  clear ho hb hg hat
                                  refine hK.out _ _ trivial (fun hHeld => ?_)
                                  clear hK K
                                  refine norm_ (a' := ?_) ?_ ?_
                                  rotate_left
                                  · show Act.put _ (some 48) _ = _
                                    simp only [Act.put, List.setIfInBounds_toArray, List.set_cons_zero, List.set_cons_succ, i64_w, i32_w]
                                    rfl
                                  refine one_ (i := 7) (N := some 51) #[true, true, true, true, true, true, true, true, false, true, true, true, false, false] rfl rfl (one_of HT_.out (by kernel_rfl)) (by decide) (fun K hK => ?_)
                                  refine Kd.R_lit_step k46 _ 46 ?hg (N := 51) ?hd (xs := ([(⟨a1, 1⟩ : S46)] : List (S46))) (inner := [.int .i64 a1, .int .i64 1]) (ok := fun _ => True) (okp := fun _ => True) ?hr ?hp (fun _ hk => hk) trivial (Below.refl _ _) (Nat.le_refl _) (by simp) ?_; (case hd => rfl); (case hg => rfl); (case hr => first | (go_simp; done) | (go_simp; rfl)); (case hp => exact (Reps.c2 (show Kd.M k46 _ _ _ (⟨a1, 1⟩ : S46) [.int .i64 a1, .int .i64 1] from (k46_mkM _ _ _ (⟨a1, 1⟩ : S46) )) (Reps.none _ _)))
                                  intro v115 w24 ho25 hb hg_ hnew_
                                  clear hg_ hnew_
                                  (first | rw [← Ny114.out] at ho25 | (simp only [Int.reduceToNat] at ho25; rw [← Ny114.out] at ho25))
                                  have n0_ := Aside0.mk (Kd.R_elder' (by (with_reducible repeat (first | apply Kd.R_alloc | apply Kd.R_drewN | apply Kd.R_drew)); exact HO113.out) (Kd.R_base ho25) hb)
                                  have n1_ := Aside0.mk (Kd.R_lower (Kd.R_new' ho25 (Kd.R_lt (by (with_reducible repeat (first | apply Kd.R_alloc | apply Kd.R_drewN | apply Kd.R_drew)); exact HO113.out))) (below_size (by repeat (first | (with_reducible first | exact HB.out | apply below_alloc | apply pw_below_drewN | apply below_drew1) | exact HB.out))))
                                  have n2_ := Aside0.mk (below_step (by repeat (first | (with_reducible first | exact HB.out | apply below_alloc | apply pw_below_drewN | apply below_drew1) | exact HB.out)) hb)
                                  clear HO113
                                  clear HB
                                  have HO113 := n0_
                                  have HO116 := n1_
                                  have HB := n2_
                                  clear n0_ n1_ n2_
                                  clear hb ho25
                                  refine hK.out _ _ trivial (fun hHeld => ?_)
                                  clear hK K
                                  refine norm_ (a' := ?_) ?_ ?_
                                  rotate_left
                                  · show Act.put _ (some 51) _ = _
                                    simp only [Act.put, List.setIfInBounds_toArray, List.set_cons_zero, List.set_cons_succ, i64_w, i32_w]
                                    rfl
                                  exact norm_ (by simp only [putAll, Act.put, List.setIfInBounds_toArray, List.set_cons_zero, List.set_cons_succ]) (hCont (v105, v112, v115) _ ⟨(by (with_reducible repeat (first | apply Kd.R_alloc | apply Kd.R_drewN | apply Kd.R_drew)); exact Kd.R_mono HO113.out (fun _ hk => hk.2)), (by (with_reducible repeat (first | apply Kd.R_alloc | apply Kd.R_drewN | apply Kd.R_drew)); exact Kd.R_mono HO116.out (fun _ hk => hk.2)), (by repeat (first | (with_reducible first | exact HB.out | apply below_alloc | apply pw_below_drewN | apply below_drew1) | exact HB.out))⟩)
                                · skip
                                  refine Kd.R_lit_step k46 _ 46 ?hg (N := 51) ?hd (xs := ([(⟨a1, 1⟩ : S46)] : List (S46))) (inner := [.int .i64 a1, .int .i64 1]) (ok := fun _ => True) (okp := fun _ => True) ?hr ?hp (fun _ hk => hk) trivial (Below.refl _ _) (Nat.le_refl _) (by simp) ?_; (case hd => rfl); (case hg => rfl); (case hr => first | (go_simp; done) | (go_simp; rfl)); (case hp => exact (Reps.c2 (show Kd.M k46 _ _ _ (⟨a1, 1⟩ : S46) [.int .i64 a1, .int .i64 1] from (k46_mkM _ _ _ (⟨a1, 1⟩ : S46) )) (Reps.none _ _)))
                                  intro v115 w23 ho24 hb hg_ hnew_
                                  clear hg_ hnew_
                                  (first | rw [← Ny114.out] at ho24 | (simp only [Int.reduceToNat] at ho24; rw [← Ny114.out] at ho24))
                                  have n0_ := Aside0.mk (Kd.R_elder' (by (with_reducible repeat (first | apply Kd.R_alloc | apply Kd.R_drewN | apply Kd.R_drew)); exact HO106.out) (Kd.R_base ho24) hb)
                                  have n1_ := Aside0.mk (Kd.R_lower (Kd.R_new' ho24 (Kd.R_lt (by (with_reducible repeat (first | apply Kd.R_alloc | apply Kd.R_drewN | apply Kd.R_drew)); exact HO106.out))) (below_size (by repeat (first | (with_reducible first | exact HB.out | apply below_alloc | apply pw_below_drewN | apply below_drew1) | exact HB.out))))
                                  have n2_ := Aside0.mk (below_step (by repeat (first | (with_reducible first | exact HB.out | apply below_alloc | apply pw_below_drewN | apply below_drew1) | exact HB.out)) hb)
                                  clear HO106
                                  clear HB
                                  have HO106 := n0_
                                  have HO116 := n1_
                                  have HB := n2_
                                  clear n0_ n1_ n2_
                                  clear hb ho24
                                  refine hK.out _ _ trivial (fun hHeld => ?_)
                                  clear hK K
                                  refine norm_ (a' := ?_) ?_ ?_
                                  rotate_left
                                  · show Act.put _ (some 51) _ = _
                                    simp only [Act.put, List.setIfInBounds_toArray, List.set_cons_zero, List.set_cons_succ, i64_w, i32_w]
                                    rfl
                                  refine one_ (i := 4) (N := some 48) #[true, true, true, true, true, true, true, true, false, true, true, true, false, false] rfl rfl (one_of HT_.out (by kernel_rfl)) (by decide) (fun K hK => ?_)
                                  refine Kd.R_append_rows_step k46 (w0 := w) w.heap.size (by rfl) (.tmp 44) (.tmp 47) 35 46 (.agg #[(.int .i64 0), (.int .i64 0)]) 16 rfl Try.underlying35 info46 rfl (by decide) (by omega) v105 y104 y107 _ _ _ (fun k_ => some k_ ≠ (v115 : Value).ownBlock) (fun _ => False) rfl rfl ?aO ?aR (fun _ _ h => h) (fun _ h => h.elim) ?aF ?aB ?aS ?aL ?_
                                  (case aR => repeat (first | exact (Kd.C_below HR110.out HB.out) | (with_reducible refine Kd.C_alloc ?_ _) | (with_reducible refine Kd.C_drewN ?_ _) | (with_reducible refine Kd.C_drew ?_)))
                                  (case aB => exact (by repeat (first | (with_reducible first | exact HB.out | apply below_alloc | apply pw_below_drewN | apply below_drew1) | exact HB.out)))
                                  (case aF => exact (fun k_ hk => Kd.fresh' (Kd.R_lt (by (with_reducible repeat (first | apply Kd.R_alloc | apply Kd.R_drewN | apply Kd.R_drew)); exact HO116.out)) k_ hk))
                                  (case aO => exact (by (with_reducible repeat (first | apply Kd.R_alloc | apply Kd.R_drewN | apply Kd.R_drew)); exact Kd.R_mono HO106.out (fun _ hk => hk.2)))
                                  (case aS => exact (below_size (by repeat (first | (with_reducible first | exact HB.out | apply below_alloc | apply pw_below_drewN | apply below_drew1) | exact HB.out))))
                                  (case aL => have := LMc13.out; omega)
                                  intro v112 w25 ho hb hg hat
                                  rw [← Ny111.out] at ho
                                  have n0_ := Aside0.mk (Kd.R_after (ok := (fun _ => True)) (by (with_reducible repeat (first | apply Kd.R_alloc | apply Kd.R_drewN | apply Kd.R_drew)); exact HO116.out) hg hat)
                                  have n1_ := Aside0.mk (hb)
                                  have n2_ := Aside0.mk (ho)
                                  clear HO116
                                  clear HB
                                  clear HO106
                                  have HO116 := n0_
                                  have HB := n1_
                                  have HO113 := n2_
                                  clear n0_ n1_ n2_
                                  clear ho hb hg hat
                                  refine hK.out _ _ trivial (fun hHeld => ?_)
                                  clear hK K
                                  refine norm_ (a' := ?_) ?_ ?_
                                  rotate_left
                                  · show Act.put _ (some 48) _ = _
                                    simp only [Act.put, List.setIfInBounds_toArray, List.set_cons_zero, List.set_cons_succ, i64_w, i32_w]
                                    rfl
                                  exact norm_ (by simp only [putAll, Act.put, List.setIfInBounds_toArray, List.set_cons_zero, List.set_cons_succ]) (hCont (v105, v112, v115) _ ⟨(by (with_reducible repeat (first | apply Kd.R_alloc | apply Kd.R_drewN | apply Kd.R_drew)); exact HO113.out), (by (with_reducible repeat (first | apply Kd.R_alloc | apply Kd.R_drewN | apply Kd.R_drew)); exact Kd.R_mono HO116.out (fun _ hk => hk.2)), (by repeat (first | (with_reducible first | exact HB.out | apply below_alloc | apply pw_below_drewN | apply below_drew1) | exact HB.out))⟩)
                              · skip
                                refine Kd.R_lit_step k46 _ 46 ?hg (N := 51) ?hd (xs := ([(⟨a1, 1⟩ : S46)] : List (S46))) (inner := [.int .i64 a1, .int .i64 1]) (ok := fun _ => True) (okp := fun _ => True) ?hr ?hp (fun _ hk => hk) trivial (Below.refl _ _) (Nat.le_refl _) (by simp) ?_; (case hd => rfl); (case hg => rfl); (case hr => first | (go_simp; done) | (go_simp; rfl)); (case hp => exact (Reps.c2 (show Kd.M k46 _ _ _ (⟨a1, 1⟩ : S46) [.int .i64 a1, .int .i64 1] from (k46_mkM _ _ _ (⟨a1, 1⟩ : S46) )) (Reps.none _ _)))
                                intro v115 w21 ho22 hb hg_ hnew_
                                clear hg_ hnew_
                                (first | rw [← Ny114.out] at ho22 | (simp only [Int.reduceToNat] at ho22; rw [← Ny114.out] at ho22))
                                have n0_ := Aside0.mk (Kd.R_lower ho22 (below_size (by repeat (first | (with_reducible first | exact HB.out | apply below_alloc | apply pw_below_drewN | apply below_drew1) | exact HB.out))))
                                have n1_ := Aside0.mk (below_step (by repeat (first | (with_reducible first | exact HB.out | apply below_alloc | apply pw_below_drewN | apply below_drew1) | exact HB.out)) hb)
                                clear HB
                                have HO116 := n0_
                                have HB := n1_
                                clear n0_ n1_
                                clear hb ho22
                                refine hK.out _ _ trivial (fun hHeld => ?_)
                                clear hK K
                                refine norm_ (a' := ?_) ?_ ?_
                                rotate_left
                                · show Act.put _ (some 51) _ = _
                                  simp only [Act.put, List.setIfInBounds_toArray, List.set_cons_zero, List.set_cons_succ, i64_w, i32_w]
                                  rfl
                                refine one_ (i := 0) (N := some 44) #[true, true, true, true, false, true, true, true, false, true, true, true, false, false] rfl rfl (one_of HT_.out (by kernel_rfl)) (by decide) (fun K hK => ?_)
                                refine Kd.R_lit_step k46 _ 46 ?hg (N := 44) ?hd (xs := ([] : List (S46))) (inner := []) (ok := fun _ => True) (okp := fun _ => True) ?hr ?hp (fun _ hk => hk) trivial (Below.refl _ _) (Nat.le_refl _) (by simp) ?_; (case hd => rfl); (case hg => rfl); (case hr => first | (go_simp; done) | (go_simp; rfl)); (case hp => exact (Reps.none _ _))
                                intro v105 w23 ho24 hb hg_ hnew_
                                clear hg_ hnew_
                                (first | rw [← Ny104.out] at ho24 | (simp only [Int.reduceToNat] at ho24; rw [← Ny104.out] at ho24))
                                have n0_ := Aside0.mk (Kd.R_elder' (by (with_reducible repeat (first | apply Kd.R_alloc | apply Kd.R_drewN | apply Kd.R_drew)); exact HO116.out) (Kd.R_base ho24) hb)
                                have n1_ := Aside0.mk (Kd.R_lower (Kd.R_new' ho24 (Kd.R_lt (by (with_reducible repeat (first | apply Kd.R_alloc | apply Kd.R_drewN | apply Kd.R_drew)); exact HO116.out))) (below_size (by repeat (first | (with_reducible first | exact HB.out | apply below_alloc | apply pw_below_drewN | apply below_drew1) | exact HB.out))))
                                have n2_ := Aside0.mk (below_step (by repeat (first | (with_reducible first | exact HB.out | apply below_alloc | apply pw_below_drewN | apply below_drew1) | exact HB.out)) hb)
                                clear HO116
                                clear HB
                                have HO116 := n0_
                                have HO106 := n1_
                                have HB := n2_
                                clear n0_ n1_ n2_
                                clear hb ho24
                                refine hK.out _ _ trivial (fun hHeld => ?_)
                                clear hK K
                                refine norm_ (a' := ?_) ?_ ?_
                                rotate_left
                                · show Act.put _ (some 44) _ = _
                                  simp only [Act.put, List.setIfInBounds_toArray, List.set_cons_zero, List.set_cons_succ, i64_w, i32_w]
                                  rfl
                                refine one_ (i := 4) (N := some 48) #[true, true, true, true, true, true, true, true, false, true, true, true, false, false] rfl rfl (one_of HT_.out (by kernel_rfl)) (by decide) (fun K hK => ?_)
                                refine Kd.R_append_rows_step k46 (w0 := w) w.heap.size (by rfl) (.tmp 44) (.tmp 47) 35 46 (.agg #[(.int .i64 0), (.int .i64 0)]) 16 rfl Try.underlying35 info46 rfl (by decide) (by omega) v105 y104 y107 _ _ _ (fun k_ => some k_ ≠ (v115 : Value).ownBlock) (fun _ => False) rfl rfl ?aO ?aR (fun _ _ h => h) (fun _ h => h.elim) ?aF ?aB ?aS ?aL ?_
                                (case aR => repeat (first | exact (Kd.C_below HR110.out HB.out) | (with_reducible refine Kd.C_alloc ?_ _) | (with_reducible refine Kd.C_drewN ?_ _) | (with_reducible refine Kd.C_drew ?_)))
                                (case aB => exact (by repeat (first | (with_reducible first | exact HB.out | apply below_alloc | apply pw_below_drewN | apply below_drew1) | exact HB.out)))
                                (case aF => exact (fun k_ hk => Kd.fresh' (Kd.R_lt (by (with_reducible repeat (first | apply Kd.R_alloc | apply Kd.R_drewN | apply Kd.R_drew)); exact HO116.out)) k_ hk))
                                (case aO => exact (by (with_reducible repeat (first | apply Kd.R_alloc | apply Kd.R_drewN | apply Kd.R_drew)); exact Kd.R_mono HO106.out (fun _ hk => hk.2)))
                                (case aS => exact (below_size (by repeat (first | (with_reducible first | exact HB.out | apply below_alloc | apply pw_below_drewN | apply below_drew1) | exact HB.out))))
                                (case aL => have := LMc13.out; omega)
                                intro v112 w25 ho hb hg hat
                                rw [← Ny111.out] at ho
                                have n0_ := Aside0.mk (Kd.R_after (ok := (fun _ => True)) (by (with_reducible repeat (first | apply Kd.R_alloc | apply Kd.R_drewN | apply Kd.R_drew)); exact HO116.out) hg hat)
                                have n1_ := Aside0.mk (hb)
                                have n2_ := Aside0.mk (ho)
                                clear HO116
                                clear HB
                                clear HO106
                                have HO116 := n0_
                                have HB := n1_
                                have HO113 := n2_
                                clear n0_ n1_ n2_
                                clear ho hb hg hat
                                refine hK.out _ _ trivial (fun hHeld => ?_)
                                clear hK K
                                refine norm_ (a' := ?_) ?_ ?_
                                rotate_left
                                · show Act.put _ (some 48) _ = _
                                  simp only [Act.put, List.setIfInBounds_toArray, List.set_cons_zero, List.set_cons_succ, i64_w, i32_w]
                                  rfl
                                exact norm_ (by simp only [putAll, Act.put, List.setIfInBounds_toArray, List.set_cons_zero, List.set_cons_succ]) (hCont (v105, v112, v115) _ ⟨(by (with_reducible repeat (first | apply Kd.R_alloc | apply Kd.R_drewN | apply Kd.R_drew)); exact HO113.out), (by (with_reducible repeat (first | apply Kd.R_alloc | apply Kd.R_drewN | apply Kd.R_drew)); exact Kd.R_mono HO116.out (fun _ hk => hk.2)), (by repeat (first | (with_reducible first | exact HB.out | apply below_alloc | apply pw_below_drewN | apply below_drew1) | exact HB.out))⟩)
                            rintro ⟨v105, v112, v115⟩ w26 ⟨h0_, h1_, h2_⟩
                            have n0_ : Aside0 (Kd.R k46 46 w26 w.heap.size (fun k_ => some k_ ≠ (v115 : Value).ownBlock) v112 y111) := ⟨h0_⟩
                            have n1_ : Aside0 (Kd.R k46 46 w26 w.heap.size (fun k_ => some k_ ≠ (v112 : Value).ownBlock) v115 y114) := ⟨h1_⟩
                            have n2_ : Aside0 (Below w.heap.size w w26) := ⟨h2_⟩
                            clear HB
                            clear h0_ h1_ h2_
                            have HO113 := n0_
                            have HO116 := n1_
                            have HB := n2_
                            clear n0_ n1_ n2_
                            have hHeld := trivial
                            obtain ⟨Ao28, co28, eo28⟩ := Kd.R_slice HO116.out
                            (first | subst eo28 | (injection eo28 with f1_ f2_ f3_; have f4_ := f1_.symm; have f5_ := f3_.symm; clear f1_ f2_ f3_; subst f4_; subst f5_))
                            refine norm_ (a' := ?_) ?_ ?_
                            rotate_left
                            · simp only [putAll, Act.put, List.setIfInBounds_toArray, List.set_cons_zero, List.set_cons_succ]
                              rfl
                            refine one_ (i := 8) (N := some 52) #[true, true, true, true, true, true, true, true, true, true, true, true, false, false] rfl rfl (one_of HT_.out (by kernel_rfl)) (by decide) (fun K hK => ?_)
                            refine Kd.R_append_rows_step k46 (w0 := w) w.heap.size (by rfl) (.tmp 48) (.tmp 51) 35 46 (.agg #[(.int .i64 0), (.int .i64 0)]) 16 rfl Try.underlying35 info46 rfl (by decide) (by omega) v112 y111 y114 _ _ _ (fun k_ => some k_ ≠ (.slice Ao28 y114.length co28 : Value).ownBlock) (fun _ => False) rfl rfl ?aO ?aR (fun _ _ h => h) (fun _ h => h.elim) ?aF ?aB ?aS ?aL ?_
                            (case aR => repeat (first | exact (Kd.R_reads' HO116.out).2.2 | (with_reducible refine Kd.C_alloc ?_ _) | (with_reducible refine Kd.C_drewN ?_ _) | (with_reducible refine Kd.C_drew ?_)))
                            (case aB => exact (by repeat (first | (with_reducible first | exact HB.out | apply below_alloc | apply pw_below_drewN | apply below_drew1) | exact HB.out)))
                            (case aF => exact (fun k_ hk => Kd.fresh' (Kd.R_lt (by (with_reducible repeat (first | apply Kd.R_alloc | apply Kd.R_drewN | apply Kd.R_drew)); exact HO116.out)) k_ hk))
                            (case aO => exact (by (with_reducible repeat (first | apply Kd.R_alloc | apply Kd.R_drewN | apply Kd.R_drew)); exact HO113.out))
                            (case aS => exact (below_size (by repeat (first | (with_reducible first | exact HB.out | apply below_alloc | apply pw_below_drewN | apply below_drew1) | exact HB.out))))
                            (case aL => have := LMc14.out; omega)
                            intro v118 w27 ho hb hg hat
                            rw [← Ny117.out] at ho
                            have n0_ := Aside0.mk (Kd.R_after (ok := (fun _ => True)) (by (with_reducible repeat (first | apply Kd.R_alloc | apply Kd.R_drewN | apply Kd.R_drew)); exact Kd.R_mono HO116.out (fun _ hk => ⟨trivial, hk⟩)) hg hat)
                            have n1_ := Aside0.mk (hb)
                            have n2_ := Aside0.mk (ho)
                            clear HO116
                            clear HB
                            clear HO113
                            have HO116 := n0_
                            have HB := n1_
                            have HO119 := n2_
                            clear n0_ n1_ n2_
                            clear ho hb hg hat
                            refine hK.out _ _ trivial (fun hHeld => ?_)
                            clear hK K
                            refine norm_ (a' := ?_) ?_ ?_
                            rotate_left
                            · show Act.put _ (some 52) _ = _
                              simp only [Act.put, List.setIfInBounds_toArray, List.set_cons_zero, List.set_cons_succ, i64_w, i32_w]
                              rfl
                            refine one_ (i := 12) (N := some 56) #[true, true, true, true, true, true, true, true, true, true, true, true, true, false] rfl rfl (one_of HT_.out (by kernel_rfl)) (by decide) (fun K hK => ?_)
                            refine Kd.R_append_rows_step k46 (w0 := w) w.heap.size (by rfl) (.tmp 52) (.tmp 55) 35 46 (.agg #[(.int .i64 0), (.int .i64 0)]) 16 rfl Try.underlying35 info46 rfl (by decide) (by omega) v118 y117 y120 _ _ _ (fun k_ => some k_ ≠ (.slice Ao28 y114.length co28 : Value).ownBlock) (fun _ => False) rfl rfl ?aO ?aR (fun _ _ h => h) (fun _ h => h.elim) ?aF ?aB ?aS ?aL ?_
                            (case aR => repeat (first | exact (Kd.C_below HR123.out HB.out) | (with_reducible refine Kd.C_alloc ?_ _) | (with_reducible refine Kd.C_drewN ?_ _) | (with_reducible refine Kd.C_drew ?_)))
                            (case aB => exact (by repeat (first | (with_reducible first | exact HB.out | apply below_alloc | apply pw_below_drewN | apply below_drew1) | exact HB.out)))
                            (case aF => exact (fun k_ hk => Kd.fresh' (Kd.R_lt (by (with_reducible repeat (first | apply Kd.R_alloc | apply Kd.R_drewN | apply Kd.R_drew)); exact HO116.out)) k_ hk))
                            (case aO => exact (by (with_reducible repeat (first | apply Kd.R_alloc | apply Kd.R_drewN | apply Kd.R_drew)); exact HO119.out))
                            (case aS => exact (below_size (by repeat (first | (with_reducible first | exact HB.out | apply below_alloc | apply pw_below_drewN | apply below_drew1) | exact HB.out))))
                            (case aL => have := LMc17.out; omega)
                            intro v125 w29 ho hb hg hat
                            rw [← Ny124.out] at ho
                            have n0_ := Aside0.mk (Kd.R_after (ok := (fun _ => True)) (by (with_reducible repeat (first | apply Kd.R_alloc | apply Kd.R_drewN | apply Kd.R_drew)); exact HO116.out) hg hat)
                            have n1_ := Aside0.mk (hb)
                            have n2_ := Aside0.mk (ho)
                            clear HO116
                            clear HB
                            clear HO119
                            have HO116 := n0_
                            have HB := n1_
                            have HO126 := n2_
                            clear n0_ n1_ n2_
                            clear ho hb hg hat
                            refine hK.out _ _ trivial (fun hHeld => ?_)
                            clear hK K
                            refine norm_ (a' := ?_) ?_ ?_
                            rotate_left
                            · show Act.put _ (some 56) _ = _
                              simp only [Act.put, List.setIfInBounds_toArray, List.set_cons_zero, List.set_cons_succ, i64_w, i32_w]
                              rfl
                            refine pure_ (i := 13) (N := some 4) (v := ?_) (a' := ?_) #[true, true, true, true, true, true, true, true, true, true, true, true, true, true] rfl rfl (any_of HT_.out (by kernel_rfl)) (fun _ _ _ h => h) (Or.inl ⟨by rfl, ?_⟩) ?_ ?_
                            rotate_left
                            · intro w'
                              go_simp
                              with_reducible rfl
                            rotate_left
                            · simp only [Act.put, List.setIfInBounds_toArray, List.set_cons_zero, List.set_cons_succ, i64_w, i32_w]
                              rfl
                            refine done_ (done_of HT_.out (by kernel_rfl)) ?_
                            try go_wp2
                            go_ret
                            exact ⟨_, by first | rfl | (simp [errW_none, errW_some] <;> rfl) | (simp only [← hji4]; first | rfl | (simp [errW_none, errW_some] <;> rfl)) | (simp [*, errW_none, errW_some] <;> rfl), by (with_reducible repeat (first | apply Kd.R_alloc | apply Kd.R_drewN | apply Kd.R_drew)); exact Kd.R_mono HO126.out (fun _ hk => trivial), by repeat (first | (with_reducible first | exact HB.out | apply below_alloc | apply pw_below_drewN | apply below_drew1) | exact HB.out)⟩
                          · rw [if_neg c17] at H
                            exact absurd H (by simp)
                        · rw [if_neg c14] at H
                          exact absurd H (by simp)
                      · rw [if_neg c13] at H
                        exact absurd H (by simp)
                    · rw [if_neg c12] at H
                      exact absurd H (by simp)
                · rw [if_neg c9] at H
                  exact absurd H (by simp)
              · rw [if_neg c8] at H
                have c8b0 : decide (x5_1 < (l0.length : Int)) = false := decide_eq_false c8
                clear c8
                obtain ⟨y127, hy127⟩ : ∃ y_ : List (S46), y_ = (([] : List (S46))) := ⟨_, rfl⟩
                replace H : (if 0 ≤ x5_1 then (if x5_1 ≤ (l0.length : Int) then ((some (l0.take (x5_1 : Int).toNat : List (S46))).bind fun y130 => (if y127.length + y130.length < 8796093022208 then ((some (y127 ++ y130 : List (S46))).bind fun y134 => ((some (([(⟨a1, 1⟩ : S46)] : List (S46)) : List (S46))).bind fun y137 => (if y134.length + y137.length < 8796093022208 then ((some (y134 ++ y137 : List (S46))).bind fun y140 => ((some (l0.drop (x5_1 : Int).toNat : List (S46))).bind fun y143 => (if y140.length + y143.length < 8796093022208 then (some (y140 ++ y143)) else (none)))) else (none)))) else (none))) else (none)) else (none)) = some r := by first | (rw [hy127]; with_reducible exact H) | (have H2_ := (Option.bind_some _ _).symm.trans H; rw [hy127]; with_reducible exact H2_) | (have H2_ := (Option.bind_some _ _).symm.trans H; with_reducible exact H2_) | with_reducible exact H | (rw [hy127]; exact H) | exact H
                have Ny127 := Aside0.mk hy127
                clear hy127
                by_cases c30 : 0 ≤ x5_1
                · rw [if_pos c30] at H
                  have c30b0 := eq_true c30
                  have c30b1 : decide (0 ≤ x5_1) = true := decide_eq_true c30
                  clear c30
                  by_cases c31 : x5_1 ≤ (l0.length : Int)
                  · rw [if_pos c31] at H
                    have c31b0 := eq_true c31
                    have c31b1 : decide (x5_1 ≤ (l0.length : Int)) = true := decide_eq_true c31
                    clear c31
                    obtain ⟨y130, hy130⟩ : ∃ y_ : List (S46), y_ = (l0.take (x5_1 : Int).toNat) := ⟨_, rfl⟩
                    replace H : (if y127.length + y130.length < 8796093022208 then ((some (y127 ++ y130 : List (S46))).bind fun y134 => ((some (([(⟨a1, 1⟩ : S46)] : List (S46)) : List (S46))).bind fun y137 => (if y134.length + y137.length < 8796093022208 then ((some (y134 ++ y137 : List (S46))).bind fun y140 => ((some (l0.drop (x5_1 : Int).toNat : List (S46))).bind fun y143 => (if y140.length + y143.length < 8796093022208 then (some (y140 ++ y143)) else (none)))) else (none)))) else (none)) = some r := by first | (rw [hy130]; with_reducible exact H) | (have H2_ := (Option.bind_some _ _).symm.trans H; rw [hy130]; with_reducible exact H2_) | (have H2_ := (Option.bind_some _ _).symm.trans H; with_reducible exact H2_) | with_reducible exact H | (rw [hy130]; exact H) | exact H
                    have Ny130 := Aside0.mk hy130
                    clear hy130
                    by_cases c32 : y127.length + y130.length < 8796093022208
                    · rw [if_pos c32] at H
                      have LMc32 := Aside0.mk c32
                      clear c32
                      obtain ⟨y134, hy134⟩ : ∃ y_ : List (S46), y_ = (y127 ++ y130) := ⟨_, rfl⟩
                      replace H : ((some (([(⟨a1, 1⟩ : S46)] : List (S46)) : List (S46))).bind fun y137 => (if y134.length + y137.length < 8796093022208 then ((some (y134 ++ y137 : List (S46))).bind fun y140 => ((some (l0.drop (x5_1 : Int).toNat : List (S46))).bind fun y143 => (if y140.length + y143.length < 8796093022208 then (some (y140 ++ y143)) else (none)))) else (none))) = some r := by first | (rw [hy134]; with_reducible exact H) | (have H2_ := (Option.bind_some _ _).symm.trans H; rw [hy134]; with_reducible exact H2_) | (have H2_ := (Option.bind_some _ _).symm.trans H; with_reducible exact H2_) | with_reducible exact H | (rw [hy134]; exact H) | exact H
                      have Ny134 := Aside0.mk hy134
                      clear hy134
                      obtain ⟨y137, hy137⟩ : ∃ y_ : List (S46), y_ = (([(⟨a1, 1⟩ : S46)] : List (S46))) := ⟨_, rfl⟩
                      replace H : (if y134.length + y137.length < 8796093022208 then ((some (y134 ++ y137 : List (S46))).bind fun y140 => ((some (l0.drop (x5_1 : Int).toNat : List (S46))).bind fun y143 => (if y140.length + y143.length < 8796093022208 then (some (y140 ++ y143)) else (none)))) else (none)) = some r := by first | (rw [hy137]; with_reducible exact H) | (have H2_ := (Option.bind_some _ _).symm.trans H; rw [hy137]; with_reducible exact H2_) | (have H2_ := (Option.bind_some _ _).symm.trans H; with_reducible exact H2_) | with_reducible exact H | (rw [hy137]; exact H) | exact H
                      have Ny137 := Aside0.mk hy137
                      clear hy137
                      by_cases c33 : y134.length + y137.length < 8796093022208
                      · rw [if_pos c33] at H
                        have LMc33 := Aside0.mk c33
                        clear c33
                        obtain ⟨y140, hy140⟩ : ∃ y_ : List (S46), y_ = (y134 ++ y137) := ⟨_, rfl⟩
                        replace H : ((some (l0.drop (x5_1 : Int).toNat : List (S46))).bind fun y143 => (if y140.length + y143.length < 8796093022208 then (some (y140 ++ y143)) else (none))) = some r := by first | (rw [hy140]; with_reducible exact H) | (have H2_ := (Option.bind_some _ _).symm.trans H; rw [hy140]; with_reducible exact H2_) | (have H2_ := (Option.bind_some _ _).symm.trans H; with_reducible exact H2_) | with_reducible exact H | (rw [hy140]; exact H) | exact H
                        have Ny140 := Aside0.mk hy140
                        clear hy140
                        have c34b0 := eq_true (of_decide_eq_true (by first | (with_reducible assumption) | assumption) : 0 ≤ x5_1)
                        have c35b0 := eq_true (of_decide_eq_true (by first | (with_reducible assumption) | assumption) : x5_1 ≤ (l0.length : Int))
                        obtain ⟨y143, hy143⟩ : ∃ y_ : List (S46), y_ = (l0.drop (x5_1 : Int).toNat) := ⟨_, rfl⟩
                        replace H : (if y140.length + y143.length < 8796093022208 then (some (y140 ++ y143)) else (none)) = some r := by first | (rw [hy143]; with_reducible exact H) | (have H2_ := (Option.bind_some _ _).symm.trans H; rw [hy143]; with_reducible exact H2_) | (have H2_ := (Option.bind_some _ _).symm.trans H; with_reducible exact H2_) | with_reducible exact H | (rw [hy143]; exact H) | exact H
                        have Ny143 := Aside0.mk hy143
                        clear hy143
                        by_cases c36 : y140.length + y143.length < 8796093022208
                        · rw [if_pos c36] at H
                          have LMc36 := Aside0.mk c36
                          clear c36
                          obtain ⟨y147, hy147⟩ : ∃ y_ : List (S46), y_ = (y140 ++ y143) := ⟨_, rfl⟩
                          replace H : (some y147) = some r := by first | (rw [hy147]; with_reducible exact H) | (have H2_ := (Option.bind_some _ _).symm.trans H; rw [hy147]; with_reducible exact H2_) | (have H2_ := (Option.bind_some _ _).symm.trans H; with_reducible exact H2_) | with_reducible exact H | (rw [hy147]; exact H) | exact H
                          have Ny147 := Aside0.mk hy147
                          clear hy147
                          obtain rfl := Option.some.inj H
                          have p101 : 0 ≤ ((ji4) : Int) := of_decide_eq_true (by first | (with_reducible assumption) | assumption)
                          have q101 : (ji4) < (l0.length : Int) := of_decide_eq_true (by first | (with_reducible assumption) | assumption)
                          obtain ⟨ad101, e101, hx101_0, hx101_1⟩ := at_T46 HR0.out (ji4) p101 q101
                          cases e101
                          replace hx101_0 := (HB.out.cell (World.block_lt_of_cell? w _ hx101_0)).trans hx101_0
                          replace hx101_1 := (HB.out.cell (World.block_lt_of_cell? w _ hx101_1)).trans hx101_1
                          replace p101 := eq_true p101
                          replace q101 := eq_true q101
                          try go_wp2
                          have n0_ := Aside0.mk (below_drew1 HB.out)
                          clear HB
                          have HB := n0_
                          clear n0_
                          have q38 : (x5_1 : Int) ≤ ((l0.length : Int) : Int) := of_decide_eq_true (by first | (with_reducible assumption) | assumption)
                          obtain ⟨i038, hi038, _, hsz38, _⟩ := info_parts info46
                          have hroom38 : l0.length ≤ c0 := HC0.out
                          have hC38 : Kd.C k46 _ (some ad101) l0.length l0 := HR0.out
                          have hcut38 := cut_to (P := Try.prog) 35 46 .i64 Try.underlying35 hi038 (some ad101) l0.length c0 x5_1 (of_decide_eq_true (by first | (with_reducible assumption) | assumption)) q38 hroom38
                          have hr38 := Kd.C_take (m := (x5_1 : Int).toNat) hC38 (by omega)
                          have hy38 : y130.length = (x5_1 : Int).toNat := (by rw [Ny130.out, List.length_take]; omega)
                          rw [← Ny130.out] at hr38
                          rw [← hy38] at hcut38
                          have HR133 := Aside0.mk hr38
                          have HC133 := Aside0.mk (show y130.length ≤ c0 from by omega)
                          clear hr38 hC38 hroom38 hi038 hsz38
                          have KY38 := Aside0.mk hy38
                          clear hy38
                          replace q38 := eq_true q38
                          have q39 : (x5_1 : Int) ≤ ((l0.length : Int) : Int) := of_decide_eq_true (by first | (with_reducible assumption) | assumption)
                          obtain ⟨i039, hi039, _, hsz39, _⟩ := info_parts info46
                          have hroom39 : l0.length ≤ c0 := HC0.out
                          have hC39 : Kd.C k46 _ (some ad101) l0.length l0 := HR0.out
                          have q039 : (0 : Int) ≤ (x5_1 : Int) := of_decide_eq_true (by first | (with_reducible assumption) | assumption)
                          have hcut39 := cut_from (P := Try.prog) 35 46 .i64 Try.underlying35 hi039 2 hsz39 (some ad101) l0.length c0 x5_1 q039 q39
                          have hr39 := Kd.C_drop (m := (x5_1 : Int).toNat) (c := c0) hC39 (by omega) hroom39
                          obtain ⟨A39, hA39⟩ : ∃ A1, A1 = (if c0 = (x5_1 : Int).toNat then (some ad101) else ((some ad101) : Option Addr).map (·.add ((x5_1 : Int).toNat * 2))) := ⟨_, rfl⟩
                          obtain ⟨c39, hc39⟩ : ∃ c1, c1 = c0 - (x5_1 : Int).toNat := ⟨_, rfl⟩
                          have hy39 : y143.length = l0.length - (x5_1 : Int).toNat := (by rw [Ny143.out, List.length_drop] <;> omega)
                          rw [show (l0).drop (x5_1 : Int).toNat = y143 from Ny143.out.symm] at hr39
                          replace hr39 : Kd.C k46 _ A39 y143.length y143 := (by rw [hA39]; exact hr39)
                          rw [← hy39, ← hA39, ← hc39] at hcut39
                          have HR146 := Aside0.mk hr39
                          have HC146 := Aside0.mk (show y143.length ≤ c39 from by rw [hy39, hc39]; exact Nat.sub_le_sub_right hroom39 _)
                          clear hr39 hC39 hroom39 hi039 hsz39 hc39
                          have KY39 := Aside0.mk hy39
                          have KA39 := Aside0.mk hA39
                          clear hy39 hA39
                          replace q39 := eq_true q39
                          refine start_ (n := 14) (S := fun w' => True) (ds := []) #[false, false, false, false, false, false, false, false, false, false, false, false, false, false] (by kernel_rfl) rfl rfl trivial (fun hHeld => ?_); refine with_tabW wageofficeref03_count.tab7 wageofficeref03_count.bits7 (fun HT_ HW_ => ?_)
                          generalize wr.drew = w37 at HB HR133 HR146 hHeld ⊢
                          refine pure_ (i := 1) (N := some 45) (v := ?_) (a' := ?_) #[false, true, false, false, false, false, false, false, false, false, false, false, false, false] rfl rfl (any_of HT_.out (by kernel_rfl)) (fun _ _ _ h => h) (Or.inl ⟨by rfl, ?_⟩) ?_ ?_
                          rotate_left
                          · intro w'
                            go_simp
                            with_reducible rfl
                          rotate_left
                          · simp only [Act.put, List.setIfInBounds_toArray, List.set_cons_zero, List.set_cons_succ, i64_w, i32_w]
                            rfl
                          refine pure_ (i := 2) (N := some 46) (v := ?_) (a' := ?_) #[false, true, true, false, false, false, false, false, false, false, false, false, false, false] rfl rfl (any_of HT_.out (by kernel_rfl)) (fun _ _ _ h => h) (Or.inl ⟨by rfl, ?_⟩) ?_ ?_
                          rotate_left
                          · intro w'
                            go_simp
                            with_reducible rfl
                          rotate_left
                          · simp only [Act.put, List.setIfInBounds_toArray, List.set_cons_zero, List.set_cons_succ, i64_w, i32_w]
                            rfl
                          refine pure_ (i := 3) (N := some 47) (v := ?_) (a' := ?_) #[false, true, true, true, false, false, false, false, false, false, false, false, false, false] rfl rfl (any_of HT_.out (by kernel_rfl)) (fun _ _ _ h => h) (Or.inl ⟨by rfl, ?_⟩) ?_ ?_
                          rotate_left
                          · intro w'
                            go_simp
                            with_reducible rfl
                          rotate_left
                          · simp only [Act.put, List.setIfInBounds_toArray, List.set_cons_zero, List.set_cons_succ, i64_w, i32_w]
                            rfl
                          refine pure_ (i := 5) (N := some 49) (v := ?_) (a' := ?_) #[false, true, true, true, false, true, false, false, false, false, false, false, false, false] rfl rfl (any_of HT_.out (by kernel_rfl)) (fun _ _ _ h => h) (Or.inl ⟨by rfl, ?_⟩) ?_ ?_
                          rotate_left
                          · intro w'
                            go_simp
                            with_reducible rfl
                          rotate_left
                          · simp only [Act.put, List.setIfInBounds_toArray, List.set_cons_zero, List.set_cons_succ, i64_w, i32_w]
                            rfl
                          refine pure_ (i := 6) (N := some 50) (v := ?_) (a' := ?_) #[false, true, true, true, false, true, true, false, false, false, false, false, false, false] rfl rfl (any_of HT_.out (by kernel_rfl)) (fun _ _ _ h => h) (Or.inl ⟨by rfl, ?_⟩) ?_ ?_
                          rotate_left
                          · intro w'
                            go_simp
                            with_reducible rfl
                          rotate_left
                          · simp only [Act.put, List.setIfInBounds_toArray, List.set_cons_zero, List.set_cons_succ, i64_w, i32_w]
                            rfl
                          refine pure_ (i := 9) (N := some 53) (v := ?_) (a' := ?_) #[false, true, true, true, false, true, true, false, false, true, false, false, false, false] rfl rfl (any_of HT_.out (by kernel_rfl)) (fun _ _ _ h => h) (Or.inl ⟨by rfl, ?_⟩) ?_ ?_
                          rotate_left
                          · intro w'
                            go_simp
                            with_reducible rfl
                          rotate_left
                          · simp only [Act.put, List.setIfInBounds_toArray, List.set_cons_zero, List.set_cons_succ, i64_w, i32_w]
                            rfl
                          refine pure_ (i := 10) (N := some 54) (v := ?_) (a' := ?_) #[false, true, true, true, false, true, true, false, false, true, true, false, false, false] rfl rfl (any_of HT_.out (by kernel_rfl)) (fun _ _ _ h => h) (Or.inl ⟨by rfl, ?_⟩) ?_ ?_
                          rotate_left
                          · intro w'
                            go_simp
                            with_reducible rfl
                          rotate_left
                          · simp only [Act.put, List.setIfInBounds_toArray, List.set_cons_zero, List.set_cons_succ, i64_w, i32_w]
                            rfl
                          refine pure_ (i := 11) (N := some 55) (v := ?_) (a' := ?_) #[false, true, true, true, false, true, true, false, false, true, true, true, false, false] rfl rfl (any_of HT_.out (by kernel_rfl)) (fun _ _ _ h => h) (Or.inl ⟨by rfl, ?_⟩) ?_ ?_
                          rotate_left
                          · intro w'
                            go_simp
                            with_reducible rfl
                          rotate_left
                          · simp only [Act.put, List.setIfInBounds_toArray, List.set_cons_zero, List.set_cons_succ, i64_w, i32_w]
                            rfl
                          refine join_ (σ := Value × Value × Value) 3 #[true, true, true, true, true, true, true, true, false, true, true, true, false, false] (fun s_ => [(44, s_.1), (48, s_.2.1), (51, s_.2.2)]) (fun s_ w' => (Kd.R k46 46 w' w.heap.size (fun k_ => some k_ ≠ (s_.2.2 : Value).ownBlock) s_.2.1 y134) ∧ (Kd.R k46 46 w' w.heap.size (fun k_ => some k_ ≠ (s_.2.1 : Value).ownBlock) s_.2.2 y137) ∧ (Below w.heap.size w w')) ?_ ?_
                          rotate_left
                          · intro hCont
                            refine two_ (i := 0) (j := 7) (Ni := some 44) (Nj := some 51) #[true, true, true, true, false, true, true, false, false, true, true, true, false, false] #[false, true, true, true, false, true, true, true, false, true, true, true, false, false] rfl rfl rfl rfl (two_of HT_.out (by kernel_rfl)) (by decide) (by decide) (fun K hK => ?_) (fun K hK => ?_)
                            · skip
                              refine Kd.R_lit_step k46 _ 46 ?hg (N := 44) ?hd (xs := ([] : List (S46))) (inner := []) (ok := fun _ => True) (okp := fun _ => True) ?hr ?hp (fun _ hk => hk) trivial (Below.refl _ _) (Nat.le_refl _) (by simp) ?_; (case hd => rfl); (case hg => rfl); (case hr => first | (go_simp; done) | (go_simp; rfl)); (case hp => exact (Reps.none _ _))
                              intro v128 w40 ho41 hb hg_ hnew_
                              clear hg_ hnew_
                              (first | rw [← Ny127.out] at ho41 | (simp only [Int.reduceToNat] at ho41; rw [← Ny127.out] at ho41))
                              have n0_ := Aside0.mk (Kd.R_lower ho41 (below_size (by repeat (first | (with_reducible first | exact HB.out | apply below_alloc | apply pw_below_drewN | apply below_drew1) | exact HB.out))))
                              have n1_ := Aside0.mk (below_step (by repeat (first | (with_reducible first | exact HB.out | apply below_alloc | apply pw_below_drewN | apply below_drew1) | exact HB.out)) hb)
                              clear HB
                              have HO129 := n0_
                              have HB := n1_
                              clear n0_ n1_
                              clear hb ho41
                              refine hK.out _ _ trivial (fun hHeld => ?_)
                              clear hK K
                              refine norm_ (a' := ?_) ?_ ?_
                              rotate_left
                              · show Act.put _ (some 44) _ = _
                                simp only [Act.put, List.setIfInBounds_toArray, List.set_cons_zero, List.set_cons_succ, i64_w, i32_w]
                                rfl
                              refine two_ (i := 4) (j := 7) (Ni := some 48) (Nj := some 51) #[true, true, true, true, true, true, true, false, false, true, true, true, false, false] #[true, true, true, true, false, true, true, true, false, true, true, true, false, false] rfl rfl rfl rfl (two_of HT_.out (by kernel_rfl)) (by decide) (by decide) (fun K hK => ?_) (fun K hK => ?_)
                              · skip
                                refine Kd.R_append_rows_step k46 (w0 := w) w.heap.size (by rfl) (.tmp 44) (.tmp 47) 35 46 (.agg #[(.int .i64 0), (.int .i64 0)]) 16 rfl Try.underlying35 info46 rfl (by decide) (by omega) v128 y127 y130 _ _ _ (fun _ => True) (fun _ => False) rfl rfl ?aO ?aR (fun _ _ h => h) (fun _ h => h.elim) ?aF ?aB ?aS ?aL ?_
                                (case aR => repeat (first | exact (Kd.C_below HR133.out HB.out) | (with_reducible refine Kd.C_alloc ?_ _) | (with_reducible refine Kd.C_drewN ?_ _) | (with_reducible refine Kd.C_drew ?_)))
                                (case aB => exact (by repeat (first | (with_reducible first | exact HB.out | apply below_alloc | apply pw_below_drewN | apply below_drew1) | exact HB.out)))
                                (case aF => exact (fun _ _ => trivial))
                                (case aO => exact (by (with_reducible repeat (first | apply Kd.R_alloc | apply Kd.R_drewN | apply Kd.R_drew)); exact HO129.out))
                                (case aS => exact (below_size (by repeat (first | (with_reducible first | exact HB.out | apply below_alloc | apply pw_below_drewN | apply below_drew1) | exact HB.out))))
                                (case aL => have := LMc32.out; omega)
                                intro v135 w42 ho hb hg hat
                                rw [← Ny134.out] at ho
                                have n0_ := Aside0.mk (hb)
                                have n1_ := Aside0.mk (ho)
                                clear HB
                                clear HO129
                                have HB := n0_
                                have HO136 := n1_
                                clear n0_ n1_
                                clear ho hb hg hat
                                refine hK.out _ _ trivial (fun hHeld => ?_)
                                clear hK K
                                refine norm_ (a' := ?_) ?_ ?_
                                rotate_left
                                · show Act.put _ (some 48) _ = _
                                  simp only [Act.put, List.setIfInBounds_toArray, List.set_cons_zero, List.set_cons_succ, i64_w, i32_w]
                                  rfl
                                refine one_ (i := 7) (N := some 51) #[true, true, true, true, true, true, true, true, false, true, true, true, false, false] rfl rfl (one_of HT_.out (by kernel_rfl)) (by decide) (fun K hK => ?_)
                                refine Kd.R_lit_step k46 _ 46 ?hg (N := 51) ?hd (xs := ([(⟨a1, 1⟩ : S46)] : List (S46))) (inner := [.int .i64 a1, .int .i64 1]) (ok := fun _ => True) (okp := fun _ => True) ?hr ?hp (fun _ hk => hk) trivial (Below.refl _ _) (Nat.le_refl _) (by simp) ?_; (case hd => rfl); (case hg => rfl); (case hr => first | (go_simp; done) | (go_simp; rfl)); (case hp => exact (Reps.c2 (show Kd.M k46 _ _ _ (⟨a1, 1⟩ : S46) [.int .i64 a1, .int .i64 1] from (k46_mkM _ _ _ (⟨a1, 1⟩ : S46) )) (Reps.none _ _)))
                                intro v138 w43 ho44 hb hg_ hnew_
                                clear hg_ hnew_
                                (first | rw [← Ny137.out] at ho44 | (simp only [Int.reduceToNat] at ho44; rw [← Ny137.out] at ho44))
                                have n0_ := Aside0.mk (Kd.R_elder' (by (with_reducible repeat (first | apply Kd.R_alloc | apply Kd.R_drewN | apply Kd.R_drew)); exact HO136.out) (Kd.R_base ho44) hb)
                                have n1_ := Aside0.mk (Kd.R_lower (Kd.R_new' ho44 (Kd.R_lt (by (with_reducible repeat (first | apply Kd.R_alloc | apply Kd.R_drewN | apply Kd.R_drew)); exact HO136.out))) (below_size (by repeat (first | (with_reducible first | exact HB.out | apply below_alloc | apply pw_below_drewN | apply below_drew1) | exact HB.out))))
                                have n2_ := Aside0.mk (below_step (by repeat (first | (with_reducible first | exact HB.out | apply below_alloc | apply pw_below_drewN | apply below_drew1) | exact HB.out)) hb)
                                clear HO136
                                clear HB
                                have HO136 := n0_
                                have HO139 := n1_
                                have HB := n2_
                                clear n0_ n1_ n2_
                                clear hb ho44
                                refine hK.out _ _ trivial (fun hHeld => ?_)
                                clear hK K
                                refine norm_ (a' := ?_) ?_ ?_
                                rotate_left
                                · show Act.put _ (some 51) _ = _
                                  simp only [Act.put, List.setIfInBounds_toArray, List.set_cons_zero, List.set_cons_succ, i64_w, i32_w]
                                  rfl
                                exact norm_ (by simp only [putAll, Act.put, List.setIfInBounds_toArray, List.set_cons_zero, List.set_cons_succ]) (hCont (v128, v135, v138) _ ⟨(by (with_reducible repeat (first | apply Kd.R_alloc | apply Kd.R_drewN | apply Kd.R_drew)); exact Kd.R_mono HO136.out (fun _ hk => hk.2)), (by (with_reducible repeat (first | apply Kd.R_alloc | apply Kd.R_drewN | apply Kd.R_drew)); exact Kd.R_mono HO139.out (fun _ hk => hk.2)), (by repeat (first | (with_reducible first | exact HB.out | apply below_alloc | apply pw_below_drewN | apply below_drew1) | exact HB.out))⟩)
                              · skip
                                refine Kd.R_lit_step k46 _ 46 ?hg (N := 51) ?hd (xs := ([(⟨a1, 1⟩ : S46)] : List (S46))) (inner := [.int .i64 a1, .int .i64 1]) (ok := fun _ => True) (okp := fun _ => True) ?hr ?hp (fun _ hk => hk) trivial (Below.refl _ _) (Nat.le_refl _) (by simp) ?_; (case hd => rfl); (case hg => rfl); (case hr => first | (go_simp; done) | (go_simp; rfl)); (case hp => exact (Reps.c2 (show Kd.M k46 _ _ _ (⟨a1, 1⟩ : S46) [.int .i64 a1, .int .i64 1] from (k46_mkM _ _ _ (⟨a1, 1⟩ : S46) )) (Reps.none _ _)))
                                intro v138 w42 ho43 hb hg_ hnew_
                                clear hg_ hnew_
                                (first | rw [← Ny137.out] at ho43 | (simp only [Int.reduceToNat] at ho43; rw [← Ny137.out] at ho43))
                                have n0_ := Aside0.mk (Kd.R_elder' (by (with_reducible repeat (first | apply Kd.R_alloc | apply Kd.R_drewN | apply Kd.R_drew)); exact HO129.out) (Kd.R_base ho43) hb)
                                have n1_ := Aside0.mk (Kd.R_lower (Kd.R_new' ho43 (Kd.R_lt (by (with_reducible repeat (first | apply Kd.R_alloc | apply Kd.R_drewN | apply Kd.R_drew)); exact HO129.out))) (below_size (by repeat (first | (with_reducible first | exact HB.out | apply below_alloc | apply pw_below_drewN | apply below_drew1) | exact HB.out))))
                                have n2_ := Aside0.mk (below_step (by repeat (first | (with_reducible first | exact HB.out | apply below_alloc | apply pw_below_drewN | apply below_drew1) | exact HB.out)) hb)
                                clear HO129
                                clear HB
                                have HO129 := n0_
                                have HO139 := n1_
                                have HB := n2_
                                clear n0_ n1_ n2_
                                clear hb ho43
                                refine hK.out _ _ trivial (fun hHeld => ?_)
                                clear hK K
                                refine norm_ (a' := ?_) ?_ ?_
                                rotate_left
                                · show Act.put _ (some 51) _ = _
                                  simp only [Act.put, List.setIfInBounds_toArray, List.set_cons_zero, List.set_cons_succ, i64_w, i32_w]
                                  rfl
                                refine one_ (i := 4) (N := some 48) #[true, true, true, true, true, true, true, true, false, true, true, true, false, false] rfl rfl (one_of HT_.out (by kernel_rfl)) (by decide) (fun K hK => ?_)
                                refine Kd.R_append_rows_step k46 (w0 := w) w.heap.size (by rfl) (.tmp 44) (.tmp 47) 35 46 (.agg #[(.int .i64 0), (.int .i64 0)]) 16 rfl Try.underlying35 info46 rfl (by decide) (by omega) v128 y127 y130 _ _ _ (fun k_ => some k_ ≠ (v138 : Value).ownBlock) (fun _ => False) rfl rfl ?aO ?aR (fun _ _ h => h) (fun _ h => h.elim) ?aF ?aB ?aS ?aL ?_
                                (case aR => repeat (first | exact (Kd.C_below HR133.out HB.out) | (with_reducible refine Kd.C_alloc ?_ _) | (with_reducible refine Kd.C_drewN ?_ _) | (with_reducible refine Kd.C_drew ?_)))
                                (case aB => exact (by repeat (first | (with_reducible first | exact HB.out | apply below_alloc | apply pw_below_drewN | apply below_drew1) | exact HB.out)))
                                (case aF => exact (fun k_ hk => Kd.fresh' (Kd.R_lt (by (with_reducible repeat (first | apply Kd.R_alloc | apply Kd.R_drewN | apply Kd.R_drew)); exact HO139.out)) k_ hk))
                                (case aO => exact (by (with_reducible repeat (first | apply Kd.R_alloc | apply Kd.R_drewN | apply Kd.R_drew)); exact Kd.R_mono HO129.out (fun _ hk => hk.2)))
                                (case aS => exact (below_size (by repeat (first | (with_reducible first | exact HB.out | apply below_alloc | apply pw_below_drewN | apply below_drew1) | exact HB.out))))
                                (case aL => have := LMc32.out; omega)
                                intro v135 w44 ho hb hg hat
                                rw [← Ny134.out] at ho
                                have n0_ := Aside0.mk (Kd.R_after (ok := (fun _ => True)) (by (with_reducible repeat (first | apply Kd.R_alloc | apply Kd.R_drewN | apply Kd.R_drew)); exact HO139.out) hg hat)
                                have n1_ := Aside0.mk (hb)
                                have n2_ := Aside0.mk (ho)
                                clear HO139
                                clear HB
                                clear HO129
                                have HO139 := n0_
                                have HB := n1_
                                have HO136 := n2_
                                clear n0_ n1_ n2_
                                clear ho hb hg hat
                                refine hK.out _ _ trivial (fun hHeld => ?_)
                                clear hK K
                                refine norm_ (a' := ?_) ?_ ?_
                                rotate_left
                                · show Act.put _ (some 48) _ = _
                                  simp only [Act.put, List.setIfInBounds_toArray, List.set_cons_zero, List.set_cons_succ, i64_w, i32_w]
                                  rfl
                                exact norm_ (by simp only [putAll, Act.put, List.setIfInBounds_toArray, List.set_cons_zero, List.set_cons_succ]) (hCont (v128, v135, v138) _ ⟨(by (with_reducible repeat (first | apply Kd.R_alloc | apply Kd.R_drewN | apply Kd.R_drew)); exact HO136.out), (by (with_reducible repeat (first | apply Kd.R_alloc | apply Kd.R_drewN | apply Kd.R_drew)); exact Kd.R_mono HO139.out (fun _ hk => hk.2)), (by repeat (first | (with_reducible first | exact HB.out | apply below_alloc | apply pw_below_drewN | apply below_drew1) | exact HB.out))⟩)
                            · skip
                              refine Kd.R_lit_step k46 _ 46 ?hg (N := 51) ?hd (xs := ([(⟨a1, 1⟩ : S46)] : List (S46))) (inner := [.int .i64 a1, .int .i64 1]) (ok := fun _ => True) (okp := fun _ => True) ?hr ?hp (fun _ hk => hk) trivial (Below.refl _ _) (Nat.le_refl _) (by simp) ?_; (case hd => rfl); (case hg => rfl); (case hr => first | (go_simp; done) | (go_simp; rfl)); (case hp => exact (Reps.c2 (show Kd.M k46 _ _ _ (⟨a1, 1⟩ : S46) [.int .i64 a1, .int .i64 1] from (k46_mkM _ _ _ (⟨a1, 1⟩ : S46) )) (Reps.none _ _)))
                              intro v138 w40 ho41 hb hg_ hnew_
                              clear hg_ hnew_
                              (first | rw [← Ny137.out] at ho41 | (simp only [Int.reduceToNat] at ho41; rw [← Ny137.out] at ho41))
                              have n0_ := Aside0.mk (Kd.R_lower ho41 (below_size (by repeat (first | (with_reducible first | exact HB.out | apply below_alloc | apply pw_below_drewN | apply below_drew1) | exact HB.out))))
                              have n1_ := Aside0.mk (below_step (by repeat (first | (with_reducible first | exact HB.out | apply below_alloc | apply pw_below_drewN | apply below_drew1) | exact HB.out)) hb)
                              clear HB
                              have HO139 := n0_
                              have HB := n1_
                              clear n0_ n1_
                              clear hb ho41
                              refine hK.out _ _ trivial (fun hHeld => ?_)
                              clear hK K
                              refine norm_ (a' := ?_) ?_ ?_
                              rotate_left
                              · show Act.put _ (some 51) _ = _
                                simp only [Act.put, List.setIfInBounds_toArray, List.set_cons_zero, List.set_cons_succ, i64_w, i32_w]
                                rfl
                              refine one_ (i := 0) (N := some 44) #[true, true, true, true, false, true, true, true, false, true, true, true, false, false] rfl rfl (one_of HT_.out (by kernel_rfl)) (by decide) (fun K hK => ?_)
                              refine Kd.R_lit_step k46 _ 46 ?hg (N := 44) ?hd (xs := ([] : List (S46))) (inner := []) (ok := fun _ => True) (okp := fun _ => True) ?hr ?hp (fun _ hk => hk) trivial (Below.refl _ _) (Nat.le_refl _) (by simp) ?_; (case hd => rfl); (case hg => rfl); (case hr => first | (go_simp; done) | (go_simp; rfl)); (case hp => exact (Reps.none _ _))
                              intro v128 w42 ho43 hb hg_ hnew_
                              clear hg_ hnew_
                              (first | rw [← Ny127.out] at ho43 | (simp only [Int.reduceToNat] at ho43; rw [← Ny127.out] at ho43))
                              have n0_ := Aside0.mk (Kd.R_elder' (by (with_reducible repeat (first | apply Kd.R_alloc | apply Kd.R_drewN | apply Kd.R_drew)); exact HO139.out) (Kd.R_base ho43) hb)
                              have n1_ := Aside0.mk (Kd.R_lower (Kd.R_new' ho43 (Kd.R_lt (by (with_reducible repeat (first | apply Kd.R_alloc | apply Kd.R_drewN | apply Kd.R_drew)); exact HO139.out))) (below_size (by repeat (first | (with_reducible first | exact HB.out | apply below_alloc | apply pw_below_drewN | apply below_drew1) | exact HB.out))))
                              have n2_ := Aside0.mk (below_step (by repeat (first | (with_reducible first | exact HB.out | apply below_alloc | apply pw_below_drewN | apply below_drew1) | exact HB.out)) hb)
                              clear HO139
                              clear HB
                              have HO139 := n0_
                              have HO129 := n1_
                              have HB := n2_
                              clear n0_ n1_ n2_
                              clear hb ho43
                              refine hK.out _ _ trivial (fun hHeld => ?_)
                              clear hK K
                              refine norm_ (a' := ?_) ?_ ?_
                              rotate_left
                              · show Act.put _ (some 44) _ = _
                                simp only [Act.put, List.setIfInBounds_toArray, List.set_cons_zero, List.set_cons_succ, i64_w, i32_w]
                                rfl
                              refine one_ (i := 4) (N := some 48) #[true, true, true, true, true, true, true, true, false, true, true, true, false, false] rfl rfl (one_of HT_.out (by kernel_rfl)) (by decide) (fun K hK => ?_)
                              refine Kd.R_append_rows_step k46 (w0 := w) w.heap.size (by rfl) (.tmp 44) (.tmp 47) 35 46 (.agg #[(.int .i64 0), (.int .i64 0)]) 16 rfl Try.underlying35 info46 rfl (by decide) (by omega) v128 y127 y130 _ _ _ (fun k_ => some k_ ≠ (v138 : Value).ownBlock) (fun _ => False) rfl rfl ?aO ?aR (fun _ _ h => h) (fun _ h => h.elim) ?aF ?aB ?aS ?aL ?_
                              (case aR => repeat (first | exact (Kd.C_below HR133.out HB.out) | (with_reducible refine Kd.C_alloc ?_ _) | (with_reducible refine Kd.C_drewN ?_ _) | (with_reducible refine Kd.C_drew ?_)))
                              (case aB => exact (by repeat (first | (with_reducible first | exact HB.out | apply below_alloc | apply pw_below_drewN | apply below_drew1) | exact HB.out)))
                              (case aF => exact (fun k_ hk => Kd.fresh' (Kd.R_lt (by (with_reducible repeat (first | apply Kd.R_alloc | apply Kd.R_drewN | apply Kd.R_drew)); exact HO139.out)) k_ hk))
                              (case aO => exact (by (with_reducible repeat (first | apply Kd.R_alloc | apply Kd.R_drewN | apply Kd.R_drew)); exact Kd.R_mono HO129.out (fun _ hk => hk.2)))
                              (case aS => exact (below_size (by repeat (first | (with_reducible first | exact HB.out | apply below_alloc | apply pw_below_drewN | apply below_drew1) | exact HB.out))))
                              (case aL => have := LMc32.out; omega)
                              intro v135 w44 ho hb hg hat
                              rw [← Ny134.out] at ho
                              have n0_ := Aside0.mk (Kd.R_after (ok := (fun _ => True)) (by (with_reducible repeat (first | apply Kd.R_alloc | apply Kd.R_drewN | apply Kd.R_drew)); exact HO139.out) hg hat)
                              have n1_ := Aside0.mk (hb)
                              have n2_ := Aside0.mk (ho)
                              clear HO139
                              clear HB
                              clear HO129
                              have HO139 := n0_
                              have HB := n1_
                              have HO136 := n2_
                              clear n0_ n1_ n2_
                              clear ho hb hg hat
                              refine hK.out _ _ trivial (fun hHeld => ?_)
                              clear hK K
                              refine norm_ (a' := ?_) ?_ ?_
                              rotate_left
                              · show Act.put _ (some 48) _ = _
                                simp only [Act.put, List.setIfInBounds_toArray, List.set_cons_zero, List.set_cons_succ, i64_w, i32_w]
                                rfl
                              exact norm_ (by simp only [putAll, Act.put, List.setIfInBounds_toArray, List.set_cons_zero, List.set_cons_succ]) (hCont (v128, v135, v138) _ ⟨(by (with_reducible repeat (first | apply Kd.R_alloc | apply Kd.R_drewN | apply Kd.R_drew)); exact HO136.out), (by (with_reducible repeat (first | apply Kd.R_alloc | apply Kd.R_drewN | apply Kd.R_drew)); exact Kd.R_mono HO139.out (fun _ hk => hk.2)), (by repeat (first | (with_reducible first | exact HB.out | apply below_alloc | apply pw_below_drewN | apply below_drew1) | exact HB.out))⟩)
                          rintro ⟨v128, v135, v138⟩ w45 ⟨h0_, h1_, h2_⟩
                          have n0_ : Aside0 (Kd.R k46 46 w45 w.heap.size (fun k_ => some k_ ≠ (v138 : Value).ownBlock) v135 y134) := ⟨h0_⟩
                          have n1_ : Aside0 (Kd.R k46 46 w45 w.heap.size (fun k_ => some k_ ≠ (v135 : Value).ownBlock) v138 y137) := ⟨h1_⟩
                          have n2_ : Aside0 (Below w.heap.size w w45) := ⟨h2_⟩
                          clear HB
                          clear h0_ h1_ h2_
                          have HO136 := n0_
                          have HO139 := n1_
                          have HB := n2_
                          clear n0_ n1_ n2_
                          have hHeld := trivial
                          obtain ⟨Ao47, co47, eo47⟩ := Kd.R_slice HO139.out
                          (first | subst eo47 | (injection eo47 with f1_ f2_ f3_; have f4_ := f1_.symm; have f5_ := f3_.symm; clear f1_ f2_ f3_; subst f4_; subst f5_))
                          refine norm_ (a' := ?_) ?_ ?_
                          rotate_left
                          · simp only [putAll, Act.put, List.setIfInBounds_toArray, List.set_cons_zero, List.set_cons_succ]
                            rfl
                          refine one_ (i := 8) (N := some 52) #[true, true, true, true, true, true, true, true, true, true, true, true, false, false] rfl rfl (one_of HT_.out (by kernel_rfl)) (by decide) (fun K hK => ?_)
                          refine Kd.R_append_rows_step k46 (w0 := w) w.heap.size (by rfl) (.tmp 48) (.tmp 51) 35 46 (.agg #[(.int .i64 0), (.int .i64 0)]) 16 rfl Try.underlying35 info46 rfl (by decide) (by omega) v135 y134 y137 _ _ _ (fun k_ => some k_ ≠ (.slice Ao47 y137.length co47 : Value).ownBlock) (fun _ => False) rfl rfl ?aO ?aR (fun _ _ h => h) (fun _ h => h.elim) ?aF ?aB ?aS ?aL ?_
                          (case aR => repeat (first | exact (Kd.R_reads' HO139.out).2.2 | (with_reducible refine Kd.C_alloc ?_ _) | (with_reducible refine Kd.C_drewN ?_ _) | (with_reducible refine Kd.C_drew ?_)))
                          (case aB => exact (by repeat (first | (with_reducible first | exact HB.out | apply below_alloc | apply pw_below_drewN | apply below_drew1) | exact HB.out)))
                          (case aF => exact (fun k_ hk => Kd.fresh' (Kd.R_lt (by (with_reducible repeat (first | apply Kd.R_alloc | apply Kd.R_drewN | apply Kd.R_drew)); exact HO139.out)) k_ hk))
                          (case aO => exact (by (with_reducible repeat (first | apply Kd.R_alloc | apply Kd.R_drewN | apply Kd.R_drew)); exact HO136.out))
                          (case aS => exact (below_size (by repeat (first | (with_reducible first | exact HB.out | apply below_alloc | apply pw_below_drewN | apply below_drew1) | exact HB.out))))
                          (case aL => have := LMc33.out; omega)
                          intro v141 w46 ho hb hg hat
                          rw [← Ny140.out] at ho
                          have n0_ := Aside0.mk (Kd.R_after (ok := (fun _ => True)) (by (with_reducible repeat (first | apply Kd.R_alloc | apply Kd.R_drewN | apply Kd.R_drew)); exact Kd.R_mono HO139.out (fun _ hk => ⟨trivial, hk⟩)) hg hat)
                          have n1_ := Aside0.mk (hb)
                          have n2_ := Aside0.mk (ho)
                          clear HO139
                          clear HB
                          clear HO136
                          have HO139 := n0_
                          have HB := n1_
                          have HO142 := n2_
                          clear n0_ n1_ n2_
                          clear ho hb hg hat
                          refine hK.out _ _ trivial (fun hHeld => ?_)
                          clear hK K
                          refine norm_ (a' := ?_) ?_ ?_
                          rotate_left
                          · show Act.put _ (some 52) _ = _
                            simp only [Act.put, List.setIfInBounds_toArray, List.set_cons_zero, List.set_cons_succ, i64_w, i32_w]
                            rfl
                          refine one_ (i := 12) (N := some 56) #[true, true, true, true, true, true, true, true, true, true, true, true, true, false] rfl rfl (one_of HT_.out (by kernel_rfl)) (by decide) (fun K hK => ?_)
                          refine Kd.R_append_rows_step k46 (w0 := w) w.heap.size (by rfl) (.tmp 52) (.tmp 55) 35 46 (.agg #[(.int .i64 0), (.int .i64 0)]) 16 rfl Try.underlying35 info46 rfl (by decide) (by omega) v141 y140 y143 _ _ _ (fun k_ => some k_ ≠ (.slice Ao47 y137.length co47 : Value).ownBlock) (fun _ => False) rfl rfl ?aO ?aR (fun _ _ h => h) (fun _ h => h.elim) ?aF ?aB ?aS ?aL ?_
                          (case aR => repeat (first | exact (Kd.C_below HR146.out HB.out) | (with_reducible refine Kd.C_alloc ?_ _) | (with_reducible refine Kd.C_drewN ?_ _) | (with_reducible refine Kd.C_drew ?_)))
                          (case aB => exact (by repeat (first | (with_reducible first | exact HB.out | apply below_alloc | apply pw_below_drewN | apply below_drew1) | exact HB.out)))
                          (case aF => exact (fun k_ hk => Kd.fresh' (Kd.R_lt (by (with_reducible repeat (first | apply Kd.R_alloc | apply Kd.R_drewN | apply Kd.R_drew)); exact HO139.out)) k_ hk))
                          (case aO => exact (by (with_reducible repeat (first | apply Kd.R_alloc | apply Kd.R_drewN | apply Kd.R_drew)); exact HO142.out))
                          (case aS => exact (below_size (by repeat (first | (with_reducible first | exact HB.out | apply below_alloc | apply pw_below_drewN | apply below_drew1) | exact HB.out))))
                          (case aL => have := LMc36.out; omega)
                          intro v148 w48 ho hb hg hat
                          rw [← Ny147.out] at ho
                          have n0_ := Aside0.mk (Kd.R_after (ok := (fun _ => True)) (by (with_reducible repeat (first | apply Kd.R_alloc | apply Kd.R_drewN | apply Kd.R_drew)); exact HO139.out) hg hat)
                          have n1_ := Aside0.mk (hb)
                          have n2_ := Aside0.mk (ho)
                          clear HO139
                          clear HB
                          clear HO142
                          have HO139 := n0_
                          have HB := n1_
                          have HO149 := n2_
                          clear n0_ n1_ n2_
                          clear ho hb hg hat
                          refine hK.out _ _ trivial (fun hHeld => ?_)
                          clear hK K
                          refine norm_ (a' := ?_) ?_ ?_
                          rotate_left
                          · show Act.put _ (some 56) _ = _
                            simp only [Act.put, List.setIfInBounds_toArray, List.set_cons_zero, List.set_cons_succ, i64_w, i32_w]
                            rfl
                          refine pure_ (i := 13) (N := some 4) (v := ?_) (a' := ?_) #[true, true, true, true, true, true, true, true, true, true, true, true, true, true] rfl rfl (any_of HT_.out (by kernel_rfl)) (fun _ _ _ h => h) (Or.inl ⟨by rfl, ?_⟩) ?_ ?_
                          rotate_left
                          · intro w'
                            go_simp
                            with_reducible rfl
                          rotate_left
                          · simp only [Act.put, List.setIfInBounds_toArray, List.set_cons_zero, List.set_cons_succ, i64_w, i32_w]
                            rfl
                          refine done_ (done_of HT_.out (by kernel_rfl)) ?_
                          try go_wp2
                          go_ret
                          exact ⟨_, by first | rfl | (simp [errW_none, errW_some] <;> rfl) | (simp only [← hji4]; first | rfl | (simp [errW_none, errW_some] <;> rfl)) | (simp [*, errW_none, errW_some] <;> rfl), by (with_reducible repeat (first | apply Kd.R_alloc | apply Kd.R_drewN | apply Kd.R_drew)); exact Kd.R_mono HO149.out (fun _ hk => trivial), by repeat (first | (with_reducible first | exact HB.out | apply below_alloc | apply pw_below_drewN | apply below_drew1) | exact HB.out)⟩
                        · rw [if_neg c36] at H
                          exact absurd H (by simp)
                      · rw [if_neg c33] at H
                        exact absurd H (by simp)
                    · rw [if_neg c32] at H
                      exact absurd H (by simp)
                  · rw [if_neg c31] at H
                    exact absurd H (by simp)
                · rw [if_neg c30] at H
                  exact absurd H (by simp)
          · rw [if_neg c6] at H
            exact absurd H (by simp)
        · rw [if_neg c5] at H
          exact absurd H (by simp)
      · rw [if_neg c3] at H
        have c3b0 : decide (0 < x5_1) = false := decide_eq_false c3
        clear c3
        by_cases c49 : x5_1 < (l0.length : Int)
        · rw [if_pos c49] at H
          have c49b0 : decide (x5_1 < (l0.length : Int)) = true := decide_eq_true c49
          clear c49
          by_cases c50 : 0 ≤ x5_1
          · rw [if_pos c50] at H
            have c50b0 : decide (0 ≤ x5_1) = true := decide_eq_true c50
            clear c50
            by_cases c51 : ((rd_T46 l0 x5_1).f0) = a1
            · rw [if_pos c51] at H
              have c51b0 : (((rd_T46 l0 x5_1).f0) == a1) = true := beq_iff_eq.mpr c51
              have c51b1 : (((rd_T46 l0 x5_1).f0) != a1) = false := bne_eq_false_iff_eq.mpr c51
              clear c51
              exact absurd H (by simp)
            · rw [if_neg c51] at H
              have c51b0 : (((rd_T46 l0 x5_1).f0) == a1) = false := beq_eq_false_iff_ne.mpr c51
              have c51b1 : (((rd_T46 l0 x5_1).f0) != a1) = true := bne_iff_ne.mpr c51
              obtain ⟨y152, hy152⟩ : ∃ y_ : List (S46), y_ = (([] : List (S46))) := ⟨_, rfl⟩
              replace H : (if x5_1 ≤ (l0.length : Int) then ((some (l0.take (x5_1 : Int).toNat : List (S46))).bind fun y155 => (if y152.length + y155.length < 8796093022208 then ((some (y152 ++ y155 : List (S46))).bind fun y159 => ((some (([(⟨a1, 1⟩ : S46)] : List (S46)) : List (S46))).bind fun y162 => (if y159.length + y162.length < 8796093022208 then ((some (y159 ++ y162 : List (S46))).bind fun y165 => ((some (l0.drop (x5_1 : Int).toNat : List (S46))).bind fun y168 => (if y165.length + y168.length < 8796093022208 then (some (y165 ++ y168)) else (none)))) else (none)))) else (none))) else (none)) = some r := by first | (rw [hy152]; with_reducible exact H) | (have H2_ := (Option.bind_some _ _).symm.trans H; rw [hy152]; with_reducible exact H2_) | (have H2_ := (Option.bind_some _ _).symm.trans H; with_reducible exact H2_) | with_reducible exact H | (rw [hy152]; exact H) | exact H
              have Ny152 := Aside0.mk hy152
              clear hy152
              have c52b0 := eq_true (of_decide_eq_true (by first | (with_reducible assumption) | assumption) : 0 ≤ x5_1)
              by_cases c53 : x5_1 ≤ (l0.length : Int)
              · rw [if_pos c53] at H
                have c53b0 := eq_true c53
                have c53b1 : decide (x5_1 ≤ (l0.length : Int)) = true := decide_eq_true c53
                clear c53
                obtain ⟨y155, hy155⟩ : ∃ y_ : List (S46), y_ = (l0.take (x5_1 : Int).toNat) := ⟨_, rfl⟩
                replace H : (if y152.length + y155.length < 8796093022208 then ((some (y152 ++ y155 : List (S46))).bind fun y159 => ((some (([(⟨a1, 1⟩ : S46)] : List (S46)) : List (S46))).bind fun y162 => (if y159.length + y162.length < 8796093022208 then ((some (y159 ++ y162 : List (S46))).bind fun y165 => ((some (l0.drop (x5_1 : Int).toNat : List (S46))).bind fun y168 => (if y165.length + y168.length < 8796093022208 then (some (y165 ++ y168)) else (none)))) else (none)))) else (none)) = some r := by first | (rw [hy155]; with_reducible exact H) | (have H2_ := (Option.bind_some _ _).symm.trans H; rw [hy155]; with_reducible exact H2_) | (have H2_ := (Option.bind_some _ _).symm.trans H; with_reducible exact H2_) | with_reducible exact H | (rw [hy155]; exact H) | exact H
                have Ny155 := Aside0.mk hy155
                clear hy155
                by_cases c54 : y152.length + y155.length < 8796093022208
                · rw [if_pos c54] at H
                  have LMc54 := Aside0.mk c54
                  clear c54
                  obtain ⟨y159, hy159⟩ : ∃ y_ : List (S46), y_ = (y152 ++ y155) := ⟨_, rfl⟩
                  replace H : ((some (([(⟨a1, 1⟩ : S46)] : List (S46)) : List (S46))).bind fun y162 => (if y159.length + y162.length < 8796093022208 then ((some (y159 ++ y162 : List (S46))).bind fun y165 => ((some (l0.drop (x5_1 : Int).toNat : List (S46))).bind fun y168 => (if y165.length + y168.length < 8796093022208 then (some (y165 ++ y168)) else (none)))) else (none))) = some r := by first | (rw [hy159]; with_reducible exact H) | (have H2_ := (Option.bind_some _ _).symm.trans H; rw [hy159]; with_reducible exact H2_) | (have H2_ := (Option.bind_some _ _).symm.trans H; with_reducible exact H2_) | with_reducible exact H | (rw [hy159]; exact H) | exact H
                  have Ny159 := Aside0.mk hy159
                  clear hy159
                  obtain ⟨y162, hy162⟩ : ∃ y_ : List (S46), y_ = (([(⟨a1, 1⟩ : S46)] : List (S46))) := ⟨_, rfl⟩
                  replace H : (if y159.length + y162.length < 8796093022208 then ((some (y159 ++ y162 : List (S46))).bind fun y165 => ((some (l0.drop (x5_1 : Int).toNat : List (S46))).bind fun y168 => (if y165.length + y168.length < 8796093022208 then (some (y165 ++ y168)) else (none)))) else (none)) = some r := by first | (rw [hy162]; with_reducible exact H) | (have H2_ := (Option.bind_some _ _).symm.trans H; rw [hy162]; with_reducible exact H2_) | (have H2_ := (Option.bind_some _ _).symm.trans H; with_reducible exact H2_) | with_reducible exact H | (rw [hy162]; exact H) | exact H
                  have Ny162 := Aside0.mk hy162
                  clear hy162
                  by_cases c55 : y159.length + y162.length < 8796093022208
                  · rw [if_pos c55] at H
                    have LMc55 := Aside0.mk c55
                    clear c55
                    obtain ⟨y165, hy165⟩ : ∃ y_ : List (S46), y_ = (y159 ++ y162) := ⟨_, rfl⟩
                    replace H : ((some (l0.drop (x5_1 : Int).toNat : List (S46))).bind fun y168 => (if y165.length + y168.length < 8796093022208 then (some (y165 ++ y168)) else (none))) = some r := by first | (rw [hy165]; with_reducible exact H) | (have H2_ := (Option.bind_some _ _).symm.trans H; rw [hy165]; with_reducible exact H2_) | (have H2_ := (Option.bind_some _ _).symm.trans H; with_reducible exact H2_) | with_reducible exact H | (rw [hy165]; exact H) | exact H
                    have Ny165 := Aside0.mk hy165
                    clear hy165
                    have c56b0 := eq_true (of_decide_eq_true (by first | (with_reducible assumption) | assumption) : 0 ≤ x5_1)
                    have c57b0 := eq_true (of_decide_eq_true (by first | (with_reducible assumption) | assumption) : x5_1 ≤ (l0.length : Int))
                    obtain ⟨y168, hy168⟩ : ∃ y_ : List (S46), y_ = (l0.drop (x5_1 : Int).toNat) := ⟨_, rfl⟩
                    replace H : (if y165.length + y168.length < 8796093022208 then (some (y165 ++ y168)) else (none)) = some r := by first | (rw [hy168]; with_reducible exact H) | (have H2_ := (Option.bind_some _ _).symm.trans H; rw [hy168]; with_reducible exact H2_) | (have H2_ := (Option.bind_some _ _).symm.trans H; with_reducible exact H2_) | with_reducible exact H | (rw [hy168]; exact H) | exact H
                    have Ny168 := Aside0.mk hy168
                    clear hy168
                    by_cases c58 : y165.length + y168.length < 8796093022208
                    · rw [if_pos c58] at H
                      have LMc58 := Aside0.mk c58
                      clear c58
                      obtain ⟨y172, hy172⟩ : ∃ y_ : List (S46), y_ = (y165 ++ y168) := ⟨_, rfl⟩
                      replace H : (some y172) = some r := by first | (rw [hy172]; with_reducible exact H) | (have H2_ := (Option.bind_some _ _).symm.trans H; rw [hy172]; with_reducible exact H2_) | (have H2_ := (Option.bind_some _ _).symm.trans H; with_reducible exact H2_) | with_reducible exact H | (rw [hy172]; exact H) | exact H
                      have Ny172 := Aside0.mk hy172
                      clear hy172
                      obtain rfl := Option.some.inj H
                      have p150 : 0 ≤ (x5_1 : Int) := of_decide_eq_true (by first | (with_reducible assumption) | assumption)
                      have q150 : x5_1 < (l0.length : Int) := of_decide_eq_true (by first | (with_reducible assumption) | assumption)
                      obtain ⟨ad150, e150, hx150_0, hx150_1⟩ := at_T46 HR0.out x5_1 p150 q150
                      cases e150
                      replace hx150_0 := (HB.out.cell (World.block_lt_of_cell? w _ hx150_0)).trans hx150_0
                      replace hx150_1 := (HB.out.cell (World.block_lt_of_cell? w _ hx150_1)).trans hx150_1
                      replace p150 := eq_true p150
                      replace q150 := eq_true q150
                      try go_wp2
                      have n0_ := Aside0.mk (below_drew1 HB.out)
                      clear HB
                      have HB := n0_
                      clear n0_
                      have q60 : (x5_1 : Int) ≤ ((l0.length : Int) : Int) := of_decide_eq_true (by first | (with_reducible assumption) | assumption)
                      obtain ⟨i060, hi060, _, hsz60, _⟩ := info_parts info46
                      have hroom60 : l0.length ≤ c0 := HC0.out
                      have hC60 : Kd.C k46 _ (some ad150) l0.length l0 := HR0.out
                      have hcut60 := cut_to (P := Try.prog) 35 46 .i64 Try.underlying35 hi060 (some ad150) l0.length c0 x5_1 (of_decide_eq_true (by first | (with_reducible assumption) | assumption)) q60 hroom60
                      have hr60 := Kd.C_take (m := (x5_1 : Int).toNat) hC60 (by omega)
                      have hy60 : y155.length = (x5_1 : Int).toNat := (by rw [Ny155.out, List.length_take]; omega)
                      rw [← Ny155.out] at hr60
                      rw [← hy60] at hcut60
                      have HR158 := Aside0.mk hr60
                      have HC158 := Aside0.mk (show y155.length ≤ c0 from by omega)
                      clear hr60 hC60 hroom60 hi060 hsz60
                      have KY60 := Aside0.mk hy60
                      clear hy60
                      replace q60 := eq_true q60
                      have q61 : (x5_1 : Int) ≤ ((l0.length : Int) : Int) := of_decide_eq_true (by first | (with_reducible assumption) | assumption)
                      obtain ⟨i061, hi061, _, hsz61, _⟩ := info_parts info46
                      have hroom61 : l0.length ≤ c0 := HC0.out
                      have hC61 : Kd.C k46 _ (some ad150) l0.length l0 := HR0.out
                      have q061 : (0 : Int) ≤ (x5_1 : Int) := of_decide_eq_true (by first | (with_reducible assumption) | assumption)
                      have hcut61 := cut_from (P := Try.prog) 35 46 .i64 Try.underlying35 hi061 2 hsz61 (some ad150) l0.length c0 x5_1 q061 q61
                      have hr61 := Kd.C_drop (m := (x5_1 : Int).toNat) (c := c0) hC61 (by omega) hroom61
                      obtain ⟨A61, hA61⟩ : ∃ A1, A1 = (if c0 = (x5_1 : Int).toNat then (some ad150) else ((some ad150) : Option Addr).map (·.add ((x5_1 : Int).toNat * 2))) := ⟨_, rfl⟩
                      obtain ⟨c61, hc61⟩ : ∃ c1, c1 = c0 - (x5_1 : Int).toNat := ⟨_, rfl⟩
                      have hy61 : y168.length = l0.length - (x5_1 : Int).toNat := (by rw [Ny168.out, List.length_drop] <;> omega)
                      rw [show (l0).drop (x5_1 : Int).toNat = y168 from Ny168.out.symm] at hr61
                      replace hr61 : Kd.C k46 _ A61 y168.length y168 := (by rw [hA61]; exact hr61)
                      rw [← hy61, ← hA61, ← hc61] at hcut61
                      have HR171 := Aside0.mk hr61
                      have HC171 := Aside0.mk (show y168.length ≤ c61 from by rw [hy61, hc61]; exact Nat.sub_le_sub_right hroom61 _)
                      clear hr61 hC61 hroom61 hi061 hsz61 hc61
                      have KY61 := Aside0.mk hy61
                      have KA61 := Aside0.mk hA61
                      clear hy61 hA61
                      replace q61 := eq_true q61
                      refine start_ (n := 14) (S := fun w' => True) (ds := []) #[false, false, false, false, false, false, false, false, false, false, false, false, false, false] (by kernel_rfl) rfl rfl trivial (fun hHeld => ?_); refine with_tabW wageofficeref03_count.tab7 wageofficeref03_count.bits7 (fun HT_ HW_ => ?_)
                      generalize wr.drew = w59 at HB HR158 HR171 hHeld ⊢
                      refine pure_ (i := 1) (N := some 45) (v := ?_) (a' := ?_) #[false, true, false, false, false, false, false, false, false, false, false, false, false, false] rfl rfl (any_of HT_.out (by kernel_rfl)) (fun _ _ _ h => h) (Or.inl ⟨by rfl, ?_⟩) ?_ ?_
                      rotate_left
                      · intro w'
                        go_simp
                        with_reducible rfl
                      rotate_left
                      · simp only [Act.put, List.setIfInBounds_toArray, List.set_cons_zero, List.set_cons_succ, i64_w, i32_w]
                        rfl
                      refine pure_ (i := 2) (N := some 46) (v := ?_) (a' := ?_) #[false, true, true, false, false, false, false, false, false, false, false, false, false, false] rfl rfl (any_of HT_.out (by kernel_rfl)) (fun _ _ _ h => h) (Or.inl ⟨by rfl, ?_⟩) ?_ ?_
                      rotate_left
                      · intro w'
                        go_simp
                        with_reducible rfl
                      rotate_left
                      · simp only [Act.put, List.setIfInBounds_toArray, List.set_cons_zero, List.set_cons_succ, i64_w, i32_w]
                        rfl
                      refine pure_ (i := 3) (N := some 47) (v := ?_) (a' := ?_) #[false, true, true, true, false, false, false, false, false, false, false, false, false, false] rfl rfl (any_of HT_.out (by kernel_rfl)) (fun _ _ _ h => h) (Or.inl ⟨by rfl, ?_⟩) ?_ ?_
                      rotate_left
                      · intro w'
                        go_simp
                        with_reducible rfl
                      rotate_left
                      · simp only [Act.put, List.setIfInBounds_toArray, List.set_cons_zero, List.set_cons_succ, i64_w, i32_w]
                        rfl
                      refine pure_ (i := 5) (N := some 49) (v := ?_) (a' := ?_) #[false, true, true, true, false, true, false, false, false, false, false, false, false, false] rfl rfl (any_of HT_.out (by kernel_rfl)) (fun _ _ _ h => h) (Or.inl ⟨by rfl, ?_⟩) ?_ ?_
                      rotate_left
                      · intro w'
                        go_simp
                        with_reducible rfl
                      rotate_left
                      · simp only [Act.put, List.setIfInBounds_toArray, List.set_cons_zero, List.set_cons_succ, i64_w, i32_w]
                        rfl
                      refine pure_ (i := 6) (N := some 50) (v := ?_) (a' := ?_) #[false, true, true, true, false, true, true, false, false, false, false, false, false, false] rfl rfl (any_of HT_.out (by kernel_rfl)) (fun _ _ _ h => h) (Or.inl ⟨by rfl, ?_⟩) ?_ ?_
                      rotate_left
                      · intro w'
                        go_simp
                        with_reducible rfl
                      rotate_left
                      · simp only [Act.put, List.setIfInBounds_toArray, List.set_cons_zero, List.set_cons_succ, i64_w, i32_w]
                        rfl
                      refine pure_ (i := 9) (N := some 53) (v := ?_) (a' := ?_) #[false, true, true, true, false, true, true, false, false, true, false, false, false, false] rfl rfl (any_of HT_.out (by kernel_rfl)) (fun _ _ _ h => h) (Or.inl ⟨by rfl, ?_⟩) ?_ ?_
                      rotate_left
                      · intro w'
                        go_simp
                        with_reducible rfl
                      rotate_left
                      · simp only [Act.put, List.setIfInBounds_toArray, List.set_cons_zero, List.set_cons_succ, i64_w, i32_w]
                        rfl
                      refine pure_ (i := 10) (N := some 54) (v := ?_) (a' := ?_) #[false, true, true, true, false, true, true, false, false, true, true, false, false, false] rfl rfl (any_of HT_.out (by kernel_rfl)) (fun _ _ _ h => h) (Or.inl ⟨by rfl, ?_⟩) ?_ ?_
                      rotate_left
                      · intro w'
                        go_simp
                        with_reducible rfl
                      rotate_left
                      · simp only [Act.put, List.setIfInBounds_toArray, List.set_cons_zero, List.set_cons_succ, i64_w, i32_w]
                        rfl
                      refine pure_ (i := 11) (N := some 55) (v := ?_) (a' := ?_) #[false, true, true, true, false, true, true, false, false, true, true, true, false, false] rfl rfl (any_of HT_.out (by kernel_rfl)) (fun _ _ _ h => h) (Or.inl ⟨by rfl, ?_⟩) ?_ ?_
                      rotate_left
                      · intro w'
                        go_simp
                        with_reducible rfl
                      rotate_left
                      · simp only [Act.put, List.setIfInBounds_toArray, List.set_cons_zero, List.set_cons_succ, i64_w, i32_w]
                        rfl
                      refine join_ (σ := Value × Value × Value) 3 #[true, true, true, true, true, true, true, true, false, true, true, true, false, false] (fun s_ => [(44, s_.1), (48, s_.2.1), (51, s_.2.2)]) (fun s_ w' => (Kd.R k46 46 w' w.heap.size (fun k_ => some k_ ≠ (s_.2.2 : Value).ownBlock) s_.2.1 y159) ∧ (Kd.R k46 46 w' w.heap.size (fun k_ => some k_ ≠ (s_.2.1 : Value).ownBlock) s_.2.2 y162) ∧ (Below w.heap.size w w')) ?_ ?_
                      rotate_left
                      · intro hCont
                        refine two_ (i := 0) (j := 7) (Ni := some 44) (Nj := some 51) #[true, true, true, true, false, true, true, false, false, true, true, true, false, false] #[false, true, true, true, false, true, true, true, false, true, true, true, false, false] rfl rfl rfl rfl (two_of HT_.out (by kernel_rfl)) (by decide) (by decide) (fun K hK => ?_) (fun K hK => ?_)
                        · skip
                          refine Kd.R_lit_step k46 _ 46 ?hg (N := 44) ?hd (xs := ([] : List (S46))) (inner := []) (ok := fun _ => True) (okp := fun _ => True) ?hr ?hp (fun _ hk => hk) trivial (Below.refl _ _) (Nat.le_refl _) (by simp) ?_; (case hd => rfl); (case hg => rfl); (case hr => first | (go_simp; done) | (go_simp; rfl)); (case hp => exact (Reps.none _ _))
                          intro v153 w62 ho63 hb hg_ hnew_
                          clear hg_ hnew_
                          (first | rw [← Ny152.out] at ho63 | (simp only [Int.reduceToNat] at ho63; rw [← Ny152.out] at ho63))
                          have n0_ := Aside0.mk (Kd.R_lower ho63 (below_size (by repeat (first | (with_reducible first | exact HB.out | apply below_alloc | apply pw_below_drewN | apply below_drew1) | exact HB.out))))
                          have n1_ := Aside0.mk (below_step (by repeat (first | (with_reducible first | exact HB.out | apply below_alloc | apply pw_below_drewN | apply below_drew1) | exact HB.out)) hb)
                          clear HB
                          have HO154 := n0_
                          have HB := n1_
                          clear n0_ n1_
                          clear hb ho63
                          refine hK.out _ _ trivial (fun hHeld => ?_)
                          clear hK K
                          refine norm_ (a' := ?_) ?_ ?_
                          rotate_left
                          · show Act.put _ (some 44) _ = _
                            simp only [Act.put, List.setIfInBounds_toArray, List.set_cons_zero, List.set_cons_succ, i64_w, i32_w]
                            rfl
                          refine two_ (i := 4) (j := 7) (Ni := some 48) (Nj := some 51) #[true, true, true, true, true, true, true, false, false, true, true, true, false, false] #[true, true, true, true, false, true, true, true, false, true, true, true, false, false] rfl rfl rfl rfl (two_of HT_.out (by kernel_rfl)) (by decide) (by decide) (fun K hK => ?_) (fun K hK => ?_)
                          · skip
                            refine Kd.R_append_rows_step k46 (w0 := w) w.heap.size (by rfl) (.tmp 44) (.tmp 47) 35 46 (.agg #[(.int .i64 0), (.int .i64 0)]) 16 rfl Try.underlying35 info46 rfl (by decide) (by omega) v153 y152 y155 _ _ _ (fun _ => True) (fun _ => False) rfl rfl ?aO ?aR (fun _ _ h => h) (fun _ h => h.elim) ?aF ?aB ?aS ?aL ?_
                            (case aR => repeat (first | exact (Kd.C_below HR158.out HB.out) | (with_reducible refine Kd.C_alloc ?_ _) | (with_reducible refine Kd.C_drewN ?_ _) | (with_reducible refine Kd.C_drew ?_)))
                            (case aB => exact (by repeat (first | (with_reducible first | exact HB.out | apply below_alloc | apply pw_below_drewN | apply below_drew1) | exact HB.out)))
                            (case aF => exact (fun _ _ => trivial))
                            (case aO => exact (by (with_reducible repeat (first | apply Kd.R_alloc | apply Kd.R_drewN | apply Kd.R_drew)); exact HO154.out))
                            (case aS => exact (below_size (by repeat (first | (with_reducible first | exact HB.out | apply below_alloc | apply pw_below_drewN | apply below_drew1) | exact HB.out))))
                            (case aL => have := LMc54.out; omega)
                            intro v160 w64 ho hb hg hat
                            rw [← Ny159.out] at ho
                            have n0_ := Aside0.mk (hb)
                            have n1_ := Aside0.mk (ho)
                            clear HB
                            clear HO154
                            have HB := n0_
                            have HO161 := n1_
                            clear n0_ n1_
                            clear ho hb hg hat
                            refine hK.out _ _ trivial (fun hHeld => ?_)
                            clear hK K
                            refine norm_ (a' := ?_) ?_ ?_
                            rotate_left
                            · show Act.put _ (some 48) _ = _
                              simp only [Act.put, List.setIfInBounds_toArray, List.set_cons_zero, List.set_cons_succ, i64_w, i32_w]
                              rfl
                            refine one_ (i := 7) (N := some 51) #[true, true, true, true, true, true, true, true, false, true, true, true, false, false] rfl rfl (one_of HT_.out (by kernel_rfl)) (by decide) (fun K hK => ?_)
                            refine Kd.R_lit_step k46 _ 46 ?hg (N := 51) ?hd (xs := ([(⟨a1, 1⟩ : S46)] : List (S46))) (inner := [.int .i64 a1, .int .i64 1]) (ok := fun _ => True) (okp := fun _ => True) ?hr ?hp (fun _ hk => hk) trivial (Below.refl _ _) (Nat.le_refl _) (by simp) ?_; (case hd => rfl); (case hg => rfl); (case hr => first | (go_simp; done) | (go_simp; rfl)); (case hp => exact (Reps.c2 (show Kd.M k46 _ _ _ (⟨a1, 1⟩ : S46) [.int .i64 a1, .int .i64 1] from (k46_mkM _ _ _ (⟨a1, 1⟩ : S46) )) (Reps.none _ _)))
                            intro v163 w65 ho66 hb hg_ hnew_
                            clear hg_ hnew_
                            (first | rw [← Ny162.out] at ho66 | (simp only [Int.reduceToNat] at ho66; rw [← Ny162.out] at ho66))
                            have n0_ := Aside0.mk (Kd.R_elder' (by (with_reducible repeat (first | apply Kd.R_alloc | apply Kd.R_drewN | apply Kd.R_drew)); exact HO161.out) (Kd.R_base ho66) hb)
                            have n1_ := Aside0.mk (Kd.R_lower (Kd.R_new' ho66 (Kd.R_lt (by (with_reducible repeat (first | apply Kd.R_alloc | apply Kd.R_drewN | apply Kd.R_drew)); exact HO161.out))) (below_size (by repeat (first | (with_reducible first | exact HB.out | apply below_alloc | apply pw_below_drewN | apply below_drew1) | exact HB.out))))
                            have n2_ := Aside0.mk (below_step (by repeat (first | (with_reducible first | exact HB.out | apply below_alloc | apply pw_below_drewN | apply below_drew1) | exact HB.out)) hb)
                            clear HO161
                            clear HB
                            have HO161 := n0_
                            have HO164 := n1_
                            have HB := n2_
                            clear n0_ n1_ n2_
                            clear hb ho66
                            refine hK.out _ _ trivial (fun hHeld => ?_)
                            clear hK K
                            refine norm_ (a' := ?_) ?_ ?_
                            rotate_left
                            · show Act.put _ (some 51) _ = _
                              simp only [Act.put, List.setIfInBounds_toArray, List.set_cons_zero, List.set_cons_succ, i64_w, i32_w]
                              rfl
                            exact norm_ (by simp only [putAll, Act.put, List.setIfInBounds_toArray, List.set_cons_zero, List.set_cons_succ]) (hCont (v153, v160, v163) _ ⟨(by (with_reducible repeat (first | apply Kd.R_alloc | apply Kd.R_drewN | apply Kd.R_drew)); exact Kd.R_mono HO161.out (fun _ hk => hk.2)), (by (with_reducible repeat (first | apply Kd.R_alloc | apply Kd.R_drewN | apply Kd.R_drew)); exact Kd.R_mono HO164.out (fun _ hk => hk.2)), (by repeat (first | (with_reducible first | exact HB.out | apply below_alloc | apply pw_below_drewN | apply below_drew1) | exact HB.out))⟩)
                          · skip
                            refine Kd.R_lit_step k46 _ 46 ?hg (N := 51) ?hd (xs := ([(⟨a1, 1⟩ : S46)] : List (S46))) (inner := [.int .i64 a1, .int .i64 1]) (ok := fun _ => True) (okp := fun _ => True) ?hr ?hp (fun _ hk => hk) trivial (Below.refl _ _) (Nat.le_refl _) (by simp) ?_; (case hd => rfl); (case hg => rfl); (case hr => first | (go_simp; done) | (go_simp; rfl)); (case hp => exact (Reps.c2 (show Kd.M k46 _ _ _ (⟨a1, 1⟩ : S46) [.int .i64 a1, .int .i64 1] from (k46_mkM _ _ _ (⟨a1, 1⟩ : S46) )) (Reps.none _ _)))
                            intro v163 w64 ho65 hb hg_ hnew_
                            clear hg_ hnew_
                            (first | rw [← Ny162.out] at ho65 | (simp only [Int.reduceToNat] at ho65; rw [← Ny162.out] at ho65))
                            have n0_ := Aside0.mk (Kd.R_elder' (by (with_reducible repeat (first | apply Kd.R_alloc | apply Kd.R_drewN | apply Kd.R_drew)); exact HO154.out) (Kd.R_base ho65) hb)
                            have n1_ := Aside0.mk (Kd.R_lower (Kd.R_new' ho65 (Kd.R_lt (by (with_reducible repeat (first | apply Kd.R_alloc | apply Kd.R_drewN | apply Kd.R_drew)); exact HO154.out))) (below_size (by repeat (first | (with_reducible first | exact HB.out | apply below_alloc | apply pw_below_drewN | apply below_drew1) | exact HB.out))))
                            have n2_ := Aside0.mk (below_step (by repeat (first | (with_reducible first | exact HB.out | apply below_alloc | apply pw_below_drewN | apply below_drew1) | exact HB.out)) hb)
                            clear HO154
                            clear HB
                            have HO154 := n0_
                            have HO164 := n1_
                            have HB := n2_
                            clear n0_ n1_ n2_
                            clear hb ho65
                            refine hK.out _ _ trivial (fun hHeld => ?_)
                            clear hK K
                            refine norm_ (a' := ?_) ?_ ?_
                            rotate_left
                            · show Act.put _ (some 51) _ = _
                              simp only [Act.put, List.setIfInBounds_toArray, List.set_cons_zero, List.set_cons_succ, i64_w, i32_w]
                              rfl
                            refine one_ (i := 4) (N := some 48) #[true, true, true, true, true, true, true, true, false, true, true, true, false, false] rfl rfl (one_of HT_.out (by kernel_rfl)) (by decide) (fun K hK => ?_)
                            refine Kd.R_append_rows_step k46 (w0 := w) w.heap.size (by rfl) (.tmp 44) (.tmp 47) 35 46 (.agg #[(.int .i64 0), (.int .i64 0)]) 16 rfl Try.underlying35 info46 rfl (by decide) (by omega) v153 y152 y155 _ _ _ (fun k_ => some k_ ≠ (v163 : Value).ownBlock) (fun _ => False) rfl rfl ?aO ?aR (fun _ _ h => h) (fun _ h => h.elim) ?aF ?aB ?aS ?aL ?_
                            (case aR => repeat (first | exact (Kd.C_below HR158.out HB.out) | (with_reducible refine Kd.C_alloc ?_ _) | (with_reducible refine Kd.C_drewN ?_ _) | (with_reducible refine Kd.C_drew ?_)))
                            (case aB => exact (by repeat (first | (with_reducible first | exact HB.out | apply below_alloc | apply pw_below_drewN | apply below_drew1) | exact HB.out)))
                            (case aF => exact (fun k_ hk => Kd.fresh' (Kd.R_lt (by (with_reducible repeat (first | apply Kd.R_alloc | apply Kd.R_drewN | apply Kd.R_drew)); exact HO164.out)) k_ hk))
                            (case aO => exact (by (with_reducible repeat (first | apply Kd.R_alloc | apply Kd.R_drewN | apply Kd.R_drew)); exact Kd.R_mono HO154.out (fun _ hk => hk.2)))
                            (case aS => exact (below_size (by repeat (first | (with_reducible first | exact HB.out | apply below_alloc | apply pw_below_drewN | apply below_drew1) | exact HB.out))))
                            (case aL => have := LMc54.out; omega)
                            intro v160 w66 ho hb hg hat
                            rw [← Ny159.out] at ho
                            have n0_ := Aside0.mk (Kd.R_after (ok := (fun _ => True)) (by (with_reducible repeat (first | apply Kd.R_alloc | apply Kd.R_drewN | apply Kd.R_drew)); exact HO164.out) hg hat)
                            have n1_ := Aside0.mk (hb)
                            have n2_ := Aside0.mk (ho)
                            clear HO164
                            clear HB
                            clear HO154
                            have HO164 := n0_
                            have HB := n1_
                            have HO161 := n2_
                            clear n0_ n1_ n2_
                            clear ho hb hg hat
                            refine hK.out _ _ trivial (fun hHeld => ?_)
                            clear hK K
                            refine norm_ (a' := ?_) ?_ ?_
                            rotate_left
                            · show Act.put _ (some 48) _ = _
                              simp only [Act.put, List.setIfInBounds_toArray, List.set_cons_zero, List.set_cons_succ, i64_w, i32_w]
                              rfl
                            exact norm_ (by simp only [putAll, Act.put, List.setIfInBounds_toArray, List.set_cons_zero, List.set_cons_succ]) (hCont (v153, v160, v163) _ ⟨(by (with_reducible repeat (first | apply Kd.R_alloc | apply Kd.R_drewN | apply Kd.R_drew)); exact HO161.out), (by (with_reducible repeat (first | apply Kd.R_alloc | apply Kd.R_drewN | apply Kd.R_drew)); exact Kd.R_mono HO164.out (fun _ hk => hk.2)), (by repeat (first | (with_reducible first | exact HB.out | apply below_alloc | apply pw_below_drewN | apply below_drew1) | exact HB.out))⟩)
                        · skip
                          refine Kd.R_lit_step k46 _ 46 ?hg (N := 51) ?hd (xs := ([(⟨a1, 1⟩ : S46)] : List (S46))) (inner := [.int .i64 a1, .int .i64 1]) (ok := fun _ => True) (okp := fun _ => True) ?hr ?hp (fun _ hk => hk) trivial (Below.refl _ _) (Nat.le_refl _) (by simp) ?_; (case hd => rfl); (case hg => rfl); (case hr => first | (go_simp; done) | (go_simp; rfl)); (case hp => exact (Reps.c2 (show Kd.M k46 _ _ _ (⟨a1, 1⟩ : S46) [.int .i64 a1, .int .i64 1] from (k46_mkM _ _ _ (⟨a1, 1⟩ : S46) )) (Reps.none _ _)))
                          intro v163 w62 ho63 hb hg_ hnew_
                          clear hg_ hnew_
                          (first | rw [← Ny162.out] at ho63 | (simp only [Int.reduceToNat] at ho63; rw [← Ny162.out] at ho63))
                          have n0_ := Aside0.mk (Kd.R_lower ho63 (below_size (by repeat (first | (with_reducible first | exact HB.out | apply below_alloc | apply pw_below_drewN | apply below_drew1) | exact HB.out))))
                          have n1_ := Aside0.mk (below_step (by repeat (first | (with_reducible first | exact HB.out | apply below_alloc | apply pw_below_drewN | apply below_drew1) | exact HB.out)) hb)
                          clear HB
                          have HO164 := n0_
                          have HB := n1_
                          clear n0_ n1_
                          clear hb ho63
                          refine hK.out _ _ trivial (fun hHeld => ?_)
                          clear hK K
                          refine norm_ (a' := ?_) ?_ ?_
                          rotate_left
                          · show Act.put _ (some 51) _ = _
                            simp only [Act.put, List.setIfInBounds_toArray, List.set_cons_zero, List.set_cons_succ, i64_w, i32_w]
                            rfl
                          refine one_ (i := 0) (N := some 44) #[true, true, true, true, false, true, true, true, false, true, true, true, false, false] rfl rfl (one_of HT_.out (by kernel_rfl)) (by decide) (fun K hK => ?_)
                          refine Kd.R_lit_step k46 _ 46 ?hg (N := 44) ?hd (xs := ([] : List (S46))) (inner := []) (ok := fun _ => True) (okp := fun _ => True) ?hr ?hp (fun _ hk => hk) trivial (Below.refl _ _) (Nat.le_refl _) (by simp) ?_; (case hd => rfl); (case hg => rfl); (case hr => first | (go_simp; done) | (go_simp; rfl)); (case hp => exact (Reps.none _ _))
                          intro v153 w64 ho65 hb hg_ hnew_
                          clear hg_ hnew_
                          (first | rw [← Ny152.out] at ho65 | (simp only [Int.reduceToNat] at ho65; rw [← Ny152.out] at ho65))
                          have n0_ := Aside0.mk (Kd.R_elder' (by (with_reducible repeat (first | apply Kd.R_alloc | apply Kd.R_drewN | apply Kd.R_drew)); exact HO164.out) (Kd.R_base ho65) hb)
                          have n1_ := Aside0.mk (Kd.R_lower (Kd.R_new' ho65 (Kd.R_lt (by (with_reducible repeat (first | apply Kd.R_alloc | apply Kd.R_drewN | apply Kd.R_drew)); exact HO164.out))) (below_size (by repeat (first | (with_reducible first | exact HB.out | apply below_alloc | apply pw_below_drewN | apply below_drew1) | exact HB.out))))
                          have n2_ := Aside0.mk (below_step (by repeat (first | (with_reducible first | exact HB.out | apply below_alloc | apply pw_below_drewN | apply below_drew1) | exact HB.out)) hb)
                          clear HO164
                          clear HB
                          have HO164 := n0_
                          have HO154 := n1_
                          have HB := n2_
                          clear n0_ n1_ n2_
                          clear hb ho65
                          refine hK.out _ _ trivial (fun hHeld => ?_)
                          clear hK K
                          refine norm_ (a' := ?_) ?_ ?_
                          rotate_left
                          · show Act.put _ (some 44) _ = _
                            simp only [Act.put, List.setIfInBounds_toArray, List.set_cons_zero, List.set_cons_succ, i64_w, i32_w]
                            rfl
                          refine one_ (i := 4) (N := some 48) #[true, true, true, true, true, true, true, true, false, true, true, true, false, false] rfl rfl (one_of HT_.out (by kernel_rfl)) (by decide) (fun K hK => ?_)
                          refine Kd.R_append_rows_step k46 (w0 := w) w.heap.size (by rfl) (.tmp 44) (.tmp 47) 35 46 (.agg #[(.int .i64 0), (.int .i64 0)]) 16 rfl Try.underlying35 info46 rfl (by decide) (by omega) v153 y152 y155 _ _ _ (fun k_ => some k_ ≠ (v163 : Value).ownBlock) (fun _ => False) rfl rfl ?aO ?aR (fun _ _ h => h) (fun _ h => h.elim) ?aF ?aB ?aS ?aL ?_
                          (case aR => repeat (first | exact (Kd.C_below HR158.out HB.out) | (with_reducible refine Kd.C_alloc ?_ _) | (with_reducible refine Kd.C_drewN ?_ _) | (with_reducible refine Kd.C_drew ?_)))
                          (case aB => exact (by repeat (first | (with_reducible first | exact HB.out | apply below_alloc | apply pw_below_drewN | apply below_drew1) | exact HB.out)))
                          (case aF => exact (fun k_ hk => Kd.fresh' (Kd.R_lt (by (with_reducible repeat (first | apply Kd.R_alloc | apply Kd.R_drewN | apply Kd.R_drew)); exact HO164.out)) k_ hk))
                          (case aO => exact (by (with_reducible repeat (first | apply Kd.R_alloc | apply Kd.R_drewN | apply Kd.R_drew)); exact Kd.R_mono HO154.out (fun _ hk => hk.2)))
                          (case aS => exact (below_size (by repeat (first | (with_reducible first | exact HB.out | apply below_alloc | apply pw_below_drewN | apply below_drew1) | exact HB.out))))
                          (case aL => have := LMc54.out; omega)
                          intro v160 w66 ho hb hg hat
                          rw [← Ny159.out] at ho
                          have n0_ := Aside0.mk (Kd.R_after (ok := (fun _ => True)) (by (with_reducible repeat (first | apply Kd.R_alloc | apply Kd.R_drewN | apply Kd.R_drew)); exact HO164.out) hg hat)
                          have n1_ := Aside0.mk (hb)
                          have n2_ := Aside0.mk (ho)
                          clear HO164
                          clear HB
                          clear HO154
                          have HO164 := n0_
                          have HB := n1_
                          have HO161 := n2_
                          clear n0_ n1_ n2_
                          clear ho hb hg hat
                          refine hK.out _ _ trivial (fun hHeld => ?_)
                          clear hK K
                          refine norm_ (a' := ?_) ?_ ?_
                          rotate_left
                          · show Act.put _ (some 48) _ = _
                            simp only [Act.put, List.setIfInBounds_toArray, List.set_cons_zero, List.set_cons_succ, i64_w, i32_w]
                            rfl
                          exact norm_ (by simp only [putAll, Act.put, List.setIfInBounds_toArray, List.set_cons_zero, List.set_cons_succ]) (hCont (v153, v160, v163) _ ⟨(by (with_reducible repeat (first | apply Kd.R_alloc | apply Kd.R_drewN | apply Kd.R_drew)); exact HO161.out), (by (with_reducible repeat (first | apply Kd.R_alloc | apply Kd.R_drewN | apply Kd.R_drew)); exact Kd.R_mono HO164.out (fun _ hk => hk.2)), (by repeat (first | (with_reducible first | exact HB.out | apply below_alloc | apply pw_below_drewN | apply below_drew1) | exact HB.out))⟩)
                      rintro ⟨v153, v160, v163⟩ w67 ⟨h0_, h1_, h2_⟩
                      have n0_ : Aside0 (Kd.R k46 46 w67 w.heap.size (fun k_ => some k_ ≠ (v163 : Value).ownBlock) v160 y159) := ⟨h0_⟩
                      have n1_ : Aside0 (Kd.R k46 46 w67 w.heap.size (fun k_ => some k_ ≠ (v160 : Value).ownBlock) v163 y162) := ⟨h1_⟩
                      have n2_ : Aside0 (Below w.heap.size w w67) := ⟨h2_⟩
                      clear HB
                      clear h0_ h1_ h2_
                      have HO161 := n0_
                      have HO164 := n1_
                      have HB := n2_
                      clear n0_ n1_ n2_
                      have hHeld := trivial
                      obtain ⟨Ao69, co69, eo69⟩ := Kd.R_slice HO164.out
                      (first | subst eo69 | (injection eo69 with f1_ f2_ f3_; have f4_ := f1_.symm; have f5_ := f3_.symm; clear f1_ f2_ f3_; subst f4_; subst f5_))
                      refine norm_ (a' := ?_) ?_ ?_
                      rotate_left
                      · simp only [putAll, Act.put, List.setIfInBounds_toArray, List.set_cons_zero, List.set_cons_succ]
                        rfl
                      refine one_ (i := 8) (N := some 52) #[true, true, true, true, true, true, true, true, true, true, true, true, false, false] rfl rfl (one_of HT_.out (by kernel_rfl)) (by decide) (fun K hK => ?_)
                      refine Kd.R_append_rows_step k46 (w0 := w) w.heap.size (by rfl) (.tmp 48) (.tmp 51) 35 46 (.agg #[(.int .i64 0), (.int .i64 0)]) 16 rfl Try.underlying35 info46 rfl (by decide) (by omega) v160 y159 y162 _ _ _ (fun k_ => some k_ ≠ (.slice Ao69 y162.length co69 : Value).ownBlock) (fun _ => False) rfl rfl ?aO ?aR (fun _ _ h => h) (fun _ h => h.elim) ?aF ?aB ?aS ?aL ?_
                      (case aR => repeat (first | exact (Kd.R_reads' HO164.out).2.2 | (with_reducible refine Kd.C_alloc ?_ _) | (with_reducible refine Kd.C_drewN ?_ _) | (with_reducible refine Kd.C_drew ?_)))
                      (case aB => exact (by repeat (first | (with_reducible first | exact HB.out | apply below_alloc | apply pw_below_drewN | apply below_drew1) | exact HB.out)))
                      (case aF => exact (fun k_ hk => Kd.fresh' (Kd.R_lt (by (with_reducible repeat (first | apply Kd.R_alloc | apply Kd.R_drewN | apply Kd.R_drew)); exact HO164.out)) k_ hk))
                      (case aO => exact (by (with_reducible repeat (first | apply Kd.R_alloc | apply Kd.R_drewN | apply Kd.R_drew)); exact HO161.out))
                      (case aS => exact (below_size (by repeat (first | (with_reducible first | exact HB.out | apply below_alloc | apply pw_below_drewN | apply below_drew1) | exact HB.out))))
                      (case aL => have := LMc55.out; omega)
                      intro v166 w68 ho hb hg hat
                      rw [← Ny165.out] at ho
                      have n0_ := Aside0.mk (Kd.R_after (ok := (fun _ => True)) (by (with_reducible repeat (first | apply Kd.R_alloc | apply Kd.R_drewN | apply Kd.R_drew)); exact Kd.R_mono HO164.out (fun _ hk => ⟨trivial, hk⟩)) hg hat)
                      have n1_ := Aside0.mk (hb)
                      have n2_ := Aside0.mk (ho)
                      clear HO164
                      clear HB
                      clear HO161
                      have HO164 := n0_
                      have HB := n1_
                      have HO167 := n2_
                      clear n0_ n1_ n2_
                      clear ho hb hg hat
                      refine hK.out _ _ trivial (fun hHeld => ?_)
                      clear hK K
                      refine norm_ (a' := ?_) ?_ ?_
                      rotate_left
                      · show Act.put _ (some 52) _ = _
                        simp only [Act.put, List.setIfInBounds_toArray, List.set_cons_zero, List.set_cons_succ, i64_w, i32_w]
                        rfl
                      refine one_ (i := 12) (N := some 56) #[true, true, true, true, true, true, true, true, true, true, true, true, true, false] rfl rfl (one_of HT_.out (by kernel_rfl)) (by decide) (fun K hK => ?_)
                      refine Kd.R_append_rows_step k46 (w0 := w) w.heap.size (by rfl) (.tmp 52) (.tmp 55) 35 46 (.agg #[(.int .i64 0), (.int .i64 0)]) 16 rfl Try.underlying35 info46 rfl (by decide) (by omega) v166 y165 y168 _ _ _ (fun k_ => some k_ ≠ (.slice Ao69 y162.length co69 : Value).ownBlock) (fun _ => False) rfl rfl ?aO ?aR (fun _ _ h => h) (fun _ h => h.elim) ?aF ?aB ?aS ?aL ?_
                      (case aR => repeat (first | exact (Kd.C_below HR171.out HB.out) | (with_reducible refine Kd.C_alloc ?_ _) | (with_reducible refine Kd.C_drewN ?_ _) | (with_reducible refine Kd.C_drew ?_)))
                      (case aB => exact (by repeat (first | (with_reducible first | exact HB.out | apply below_alloc | apply pw_below_drewN | apply below_drew1) | exact HB.out)))
                      (case aF => exact (fun k_ hk => Kd.fresh' (Kd.R_lt (by (with_reducible repeat (first | apply Kd.R_alloc | apply Kd.R_drewN | apply Kd.R_drew)); exact HO164.out)) k_ hk))
                      (case aO => exact (by (with_reducible repeat (first | apply Kd.R_alloc | apply Kd.R_drewN | apply Kd.R_drew)); exact HO167.out))
                      (case aS => exact (below_size (by repeat (first | (with_reducible first | exact HB.out | apply below_alloc | apply pw_below_drewN | apply below_drew1) | exact HB.out))))
                      (case aL => have := LMc58.out; omega)
                      intro v173 w70 ho hb hg hat
                      rw [← Ny172.out] at ho
                      have n0_ := Aside0.mk (Kd.R_after (ok := (fun _ => True)) (by (with_reducible repeat (first | apply Kd.R_alloc | apply Kd.R_drewN | apply Kd.R_drew)); exact HO164.out) hg hat)
                      have n1_ := Aside0.mk (hb)
                      have n2_ := Aside0.mk (ho)
                      clear HO164
                      clear HB
                      clear HO167
                      have HO164 := n0_
                      have HB := n1_
                      have HO174 := n2_
                      clear n0_ n1_ n2_
                      clear ho hb hg hat
                      refine hK.out _ _ trivial (fun hHeld => ?_)
                      clear hK K
                      refine norm_ (a' := ?_) ?_ ?_
                      rotate_left
                      · show Act.put _ (some 56) _ = _
                        simp only [Act.put, List.setIfInBounds_toArray, List.set_cons_zero, List.set_cons_succ, i64_w, i32_w]
                        rfl
                      refine pure_ (i := 13) (N := some 4) (v := ?_) (a' := ?_) #[true, true, true, true, true, true, true, true, true, true, true, true, true, true] rfl rfl (any_of HT_.out (by kernel_rfl)) (fun _ _ _ h => h) (Or.inl ⟨by rfl, ?_⟩) ?_ ?_
                      rotate_left
                      · intro w'
                        go_simp
                        with_reducible rfl
                      rotate_left
                      · simp only [Act.put, List.setIfInBounds_toArray, List.set_cons_zero, List.set_cons_succ, i64_w, i32_w]
                        rfl
                      refine done_ (done_of HT_.out (by kernel_rfl)) ?_
                      try go_wp2
                      go_ret
                      exact ⟨_, by first | rfl | (simp [errW_none, errW_some] <;> rfl) | (simp [*, errW_none, errW_some] <;> rfl), by (with_reducible repeat (first | apply Kd.R_alloc | apply Kd.R_drewN | apply Kd.R_drew)); exact Kd.R_mono HO174.out (fun _ hk => trivial), by repeat (first | (with_reducible first | exact HB.out | apply below_alloc | apply pw_below_drewN | apply below_drew1) | exact HB.out)⟩
                    · rw [if_neg c58] at H
                      exact absurd H (by simp)
                  · rw [if_neg c55] at H
                    exact absurd H (by simp)
                · rw [if_neg c54] at H
                  exact absurd H (by simp)
              · rw [if_neg c53] at H
                exact absurd H (by simp)
          · rw [if_neg c50] at H
            exact absurd H (by simp)
        · rw [if_neg c49] at H
          have c49b0 : decide (x5_1 < (l0.length : Int)) = false := decide_eq_false c49
          clear c49
          obtain ⟨y175, hy175⟩ : ∃ y_ : List (S46), y_ = (([] : List (S46))) := ⟨_, rfl⟩
          replace H : (if 0 ≤ x5_1 then (if x5_1 ≤ (l0.length : Int) then ((some (l0.take (x5_1 : Int).toNat : List (S46))).bind fun y178 => (if y175.length + y178.length < 8796093022208 then ((some (y175 ++ y178 : List (S46))).bind fun y182 => ((some (([(⟨a1, 1⟩ : S46)] : List (S46)) : List (S46))).bind fun y185 => (if y182.length + y185.length < 8796093022208 then ((some (y182 ++ y185 : List (S46))).bind fun y188 => ((some (l0.drop (x5_1 : Int).toNat : List (S46))).bind fun y191 => (if y188.length + y191.length < 8796093022208 then (some (y188 ++ y191)) else (none)))) else (none)))) else (none))) else (none)) else (none)) = some r := by first | (rw [hy175]; with_reducible exact H) | (have H2_ := (Option.bind_some _ _).symm.trans H; rw [hy175]; with_reducible exact H2_) | (have H2_ := (Option.bind_some _ _).symm.trans H; with_reducible exact H2_) | with_reducible exact H | (rw [hy175]; exact H) | exact H
          have Ny175 := Aside0.mk hy175
          clear hy175
          by_cases c71 : 0 ≤ x5_1
          · rw [if_pos c71] at H
            have c71b0 := eq_true c71
            have c71b1 : decide (0 ≤ x5_1) = true := decide_eq_true c71
            clear c71
            by_cases c72 : x5_1 ≤ (l0.length : Int)
            · rw [if_pos c72] at H
              have c72b0 := eq_true c72
              have c72b1 : decide (x5_1 ≤ (l0.length : Int)) = true := decide_eq_true c72
              clear c72
              obtain ⟨y178, hy178⟩ : ∃ y_ : List (S46), y_ = (l0.take (x5_1 : Int).toNat) := ⟨_, rfl⟩
              replace H : (if y175.length + y178.length < 8796093022208 then ((some (y175 ++ y178 : List (S46))).bind fun y182 => ((some (([(⟨a1, 1⟩ : S46)] : List (S46)) : List (S46))).bind fun y185 => (if y182.length + y185.length < 8796093022208 then ((some (y182 ++ y185 : List (S46))).bind fun y188 => ((some (l0.drop (x5_1 : Int).toNat : List (S46))).bind fun y191 => (if y188.length + y191.length < 8796093022208 then (some (y188 ++ y191)) else (none)))) else (none)))) else (none)) = some r := by first | (rw [hy178]; with_reducible exact H) | (have H2_ := (Option.bind_some _ _).symm.trans H; rw [hy178]; with_reducible exact H2_) | (have H2_ := (Option.bind_some _ _).symm.trans H; with_reducible exact H2_) | with_reducible exact H | (rw [hy178]; exact H) | exact H
              have Ny178 := Aside0.mk hy178
              clear hy178
              by_cases c73 : y175.length + y178.length < 8796093022208
              · rw [if_pos c73] at H
                have LMc73 := Aside0.mk c73
                clear c73
                obtain ⟨y182, hy182⟩ : ∃ y_ : List (S46), y_ = (y175 ++ y178) := ⟨_, rfl⟩
                replace H : ((some (([(⟨a1, 1⟩ : S46)] : List (S46)) : List (S46))).bind fun y185 => (if y182.length + y185.length < 8796093022208 then ((some (y182 ++ y185 : List (S46))).bind fun y188 => ((some (l0.drop (x5_1 : Int).toNat : List (S46))).bind fun y191 => (if y188.length + y191.length < 8796093022208 then (some (y188 ++ y191)) else (none)))) else (none))) = some r := by first | (rw [hy182]; with_reducible exact H) | (have H2_ := (Option.bind_some _ _).symm.trans H; rw [hy182]; with_reducible exact H2_) | (have H2_ := (Option.bind_some _ _).symm.trans H; with_reducible exact H2_) | with_reducible exact H | (rw [hy182]; exact H) | exact H
                have Ny182 := Aside0.mk hy182
                clear hy182
                obtain ⟨y185, hy185⟩ : ∃ y_ : List (S46), y_ = (([(⟨a1, 1⟩ : S46)] : List (S46))) := ⟨_, rfl⟩
                replace H : (if y182.length + y185.length < 8796093022208 then ((some (y182 ++ y185 : List (S46))).bind fun y188 => ((some (l0.drop (x5_1 : Int).toNat : List (S46))).bind fun y191 => (if y188.length + y191.length < 8796093022208 then (some (y188 ++ y191)) else (none)))) else (none)) = some r := by first | (rw [hy185]; with_reducible exact H) | (have H2_ := (Option.bind_some _ _).symm.trans H; rw [hy185]; with_reducible exact H2_) | (have H2_ := (Option.bind_some _ _).symm.trans H; with_reducible exact H2_) | with_reducible exact H | (rw [hy185]; exact H) | exact H
                have Ny185 := Aside0.mk hy185
                clear hy185
                by_cases c74 : y182.length + y185.length < 8796093022208
                · rw [if_pos c74] at H
                  have LMc74 := Aside0.mk c74
                  clear c74
                  obtain ⟨y188, hy188⟩ : ∃ y_ : List (S46), y_ = (y182 ++ y185) := ⟨_, rfl⟩
                  replace H : ((some (l0.drop (x5_1 : Int).toNat : List (S46))).bind fun y191 => (if y188.length + y191.length < 8796093022208 then (some (y188 ++ y191)) else (none))) = some r := by first | (rw [hy188]; with_reducible exact H) | (have H2_ := (Option.bind_some _ _).symm.trans H; rw [hy188]; with_reducible exact H2_) | (have H2_ := (Option.bind_some _ _).symm.trans H; with_reducible exact H2_) | with_reducible exact H | (rw [hy188]; exact H) | exact H
                  have Ny188 := Aside0.mk hy188
                  clear hy188
                  have c75b0 := eq_true (of_decide_eq_true (by first | (with_reducible assumption) | assumption) : 0 ≤ x5_1)
                  have c76b0 := eq_true (of_decide_eq_true (by first | (with_reducible assumption) | assumption) : x5_1 ≤ (l0.length : Int))
                  obtain ⟨y191, hy191⟩ : ∃ y_ : List (S46), y_ = (l0.drop (x5_1 : Int).toNat) := ⟨_, rfl⟩
                  replace H : (if y188.length + y191.length < 8796093022208 then (some (y188 ++ y191)) else (none)) = some r := by first | (rw [hy191]; with_reducible exact H) | (have H2_ := (Option.bind_some _ _).symm.trans H; rw [hy191]; with_reducible exact H2_) | (have H2_ := (Option.bind_some _ _).symm.trans H; with_reducible exact H2_) | with_reducible exact H | (rw [hy191]; exact H) | exact H
                  have Ny191 := Aside0.mk hy191
                  clear hy191
                  by_cases c77 : y188.length + y191.length < 8796093022208
                  · rw [if_pos c77] at H
                    have LMc77 := Aside0.mk c77
                    clear c77
                    obtain ⟨y195, hy195⟩ : ∃ y_ : List (S46), y_ = (y188 ++ y191) := ⟨_, rfl⟩
                    replace H : (some y195) = some r := by first | (rw [hy195]; with_reducible exact H) | (have H2_ := (Option.bind_some _ _).symm.trans H; rw [hy195]; with_reducible exact H2_) | (have H2_ := (Option.bind_some _ _).symm.trans H; with_reducible exact H2_) | with_reducible exact H | (rw [hy195]; exact H) | exact H
                    have Ny195 := Aside0.mk hy195
                    clear hy195
                    obtain rfl := Option.some.inj H
                    try go_wp2
                    have n0_ := Aside0.mk (below_drew1 HB.out)
                    clear HB
                    have HB := n0_
                    clear n0_
                    have q79 : (x5_1 : Int) ≤ ((l0.length : Int) : Int) := of_decide_eq_true (by first | (with_reducible assumption) | assumption)
                    obtain ⟨i079, hi079, _, hsz79, _⟩ := info_parts info46
                    have hroom79 : l0.length ≤ c0 := HC0.out
                    have hC79 : Kd.C k46 _ A0 l0.length l0 := HR0.out
                    have hcut79 := cut_to (P := Try.prog) 35 46 .i64 Try.underlying35 hi079 A0 l0.length c0 x5_1 (of_decide_eq_true (by first | (with_reducible assumption) | assumption)) q79 hroom79
                    have hr79 := Kd.C_take (m := (x5_1 : Int).toNat) hC79 (by omega)
                    have hy79 : y178.length = (x5_1 : Int).toNat := (by rw [Ny178.out, List.length_take]; omega)
                    rw [← Ny178.out] at hr79
                    rw [← hy79] at hcut79
                    have HR181 := Aside0.mk hr79
                    have HC181 := Aside0.mk (show y178.length ≤ c0 from by omega)
                    clear hr79 hC79 hroom79 hi079 hsz79
                    have KY79 := Aside0.mk hy79
                    clear hy79
                    replace q79 := eq_true q79
                    have q80 : (x5_1 : Int) ≤ ((l0.length : Int) : Int) := of_decide_eq_true (by first | (with_reducible assumption) | assumption)
                    obtain ⟨i080, hi080, _, hsz80, _⟩ := info_parts info46
                    have hroom80 : l0.length ≤ c0 := HC0.out
                    have hC80 : Kd.C k46 _ A0 l0.length l0 := HR0.out
                    have q080 : (0 : Int) ≤ (x5_1 : Int) := of_decide_eq_true (by first | (with_reducible assumption) | assumption)
                    have hcut80 := cut_from (P := Try.prog) 35 46 .i64 Try.underlying35 hi080 2 hsz80 A0 l0.length c0 x5_1 q080 q80
                    have hr80 := Kd.C_drop (m := (x5_1 : Int).toNat) (c := c0) hC80 (by omega) hroom80
                    obtain ⟨A80, hA80⟩ : ∃ A1, A1 = (if c0 = (x5_1 : Int).toNat then A0 else (A0 : Option Addr).map (·.add ((x5_1 : Int).toNat * 2))) := ⟨_, rfl⟩
                    obtain ⟨c80, hc80⟩ : ∃ c1, c1 = c0 - (x5_1 : Int).toNat := ⟨_, rfl⟩
                    have hy80 : y191.length = l0.length - (x5_1 : Int).toNat := (by rw [Ny191.out, List.length_drop] <;> omega)
                    rw [show (l0).drop (x5_1 : Int).toNat = y191 from Ny191.out.symm] at hr80
                    replace hr80 : Kd.C k46 _ A80 y191.length y191 := (by rw [hA80]; exact hr80)
                    rw [← hy80, ← hA80, ← hc80] at hcut80
                    have HR194 := Aside0.mk hr80
                    have HC194 := Aside0.mk (show y191.length ≤ c80 from by rw [hy80, hc80]; exact Nat.sub_le_sub_right hroom80 _)
                    clear hr80 hC80 hroom80 hi080 hsz80 hc80
                    have KY80 := Aside0.mk hy80
                    have KA80 := Aside0.mk hA80
                    clear hy80 hA80
                    replace q80 := eq_true q80
                    refine start_ (n := 14) (S := fun w' => True) (ds := []) #[false, false, false, false, false, false, false, false, false, false, false, false, false, false] (by kernel_rfl) rfl rfl trivial (fun hHeld => ?_); refine with_tabW wageofficeref03_count.tab7 wageofficeref03_count.bits7 (fun HT_ HW_ => ?_)
                    generalize wr.drew = w78 at HB HR181 HR194 hHeld ⊢
                    refine pure_ (i := 1) (N := some 45) (v := ?_) (a' := ?_) #[false, true, false, false, false, false, false, false, false, false, false, false, false, false] rfl rfl (any_of HT_.out (by kernel_rfl)) (fun _ _ _ h => h) (Or.inl ⟨by rfl, ?_⟩) ?_ ?_
                    rotate_left
                    · intro w'
                      go_simp
                      with_reducible rfl
                    rotate_left
                    · simp only [Act.put, List.setIfInBounds_toArray, List.set_cons_zero, List.set_cons_succ, i64_w, i32_w]
                      rfl
                    refine pure_ (i := 2) (N := some 46) (v := ?_) (a' := ?_) #[false, true, true, false, false, false, false, false, false, false, false, false, false, false] rfl rfl (any_of HT_.out (by kernel_rfl)) (fun _ _ _ h => h) (Or.inl ⟨by rfl, ?_⟩) ?_ ?_
                    rotate_left
                    · intro w'
                      go_simp
                      with_reducible rfl
                    rotate_left
                    · simp only [Act.put, List.setIfInBounds_toArray, List.set_cons_zero, List.set_cons_succ, i64_w, i32_w]
                      rfl
                    refine pure_ (i := 3) (N := some 47) (v := ?_) (a' := ?_) #[false, true, true, true, false, false, false, false, false, false, false, false, false, false] rfl rfl (any_of HT_.out (by kernel_rfl)) (fun _ _ _ h => h) (Or.inl ⟨by rfl, ?_⟩) ?_ ?_
                    rotate_left
                    · intro w'
                      go_simp
                      with_reducible rfl
                    rotate_left
                    · simp only [Act.put, List.setIfInBounds_toArray, List.set_cons_zero, List.set_cons_succ, i64_w, i32_w]
                      rfl
                    refine pure_ (i := 5) (N := some 49) (v := ?_) (a' := ?_) #[false, true, true, true, false, true, false, false, false, false, false, false, false, false] rfl rfl (any_of HT_.out (by kernel_rfl)) (fun _ _ _ h => h) (Or.inl ⟨by rfl, ?_⟩) ?_ ?_
                    rotate_left
                    · intro w'
                      go_simp
                      with_reducible rfl
                    rotate_left
                    · simp only [Act.put, List.setIfInBounds_toArray, List.set_cons_zero, List.set_cons_succ, i64_w, i32_w]
                      rfl
                    refine pure_ (i := 6) (N := some 50) (v := ?_) (a' := ?_) #[false, true, true, true, false, true, true, false, false, false, false, false, false, false] rfl rfl (any_of HT_.out (by kernel_rfl)) (fun _ _ _ h => h) (Or.inl ⟨by rfl, ?_⟩) ?_ ?_
                    rotate_left
                    · intro w'
                      go_simp
                      with_reducible rfl
                    rotate_left
                    · simp only [Act.put, List.setIfInBounds_toArray, List.set_cons_zero, List.set_cons_succ, i64_w, i32_w]
                      rfl
                    refine pure_ (i := 9) (N := some 53) (v := ?_) (a' := ?_) #[false, true, true, true, false, true, true, false, false, true, false, false, false, false] rfl rfl (any_of HT_.out (by kernel_rfl)) (fun _ _ _ h => h) (Or.inl ⟨by rfl, ?_⟩) ?_ ?_
                    rotate_left
                    · intro w'
                      go_simp
                      with_reducible rfl
                    rotate_left
                    · simp only [Act.put, List.setIfInBounds_toArray, List.set_cons_zero, List.set_cons_succ, i64_w, i32_w]
                      rfl
                    refine pure_ (i := 10) (N := some 54) (v := ?_) (a' := ?_) #[false, true, true, true, false, true, true, false, false, true, true, false, false, false] rfl rfl (any_of HT_.out (by kernel_rfl)) (fun _ _ _ h => h) (Or.inl ⟨by rfl, ?_⟩) ?_ ?_
                    rotate_left
                    · intro w'
                      go_simp
                      with_reducible rfl
                    rotate_left
                    · simp only [Act.put, List.setIfInBounds_toArray, List.set_cons_zero, List.set_cons_succ, i64_w, i32_w]
                      rfl
                    refine pure_ (i := 11) (N := some 55) (v := ?_) (a' := ?_) #[false, true, true, true, false, true, true, false, false, true, true, true, false, false] rfl rfl (any_of HT_.out (by kernel_rfl)) (fun _ _ _ h => h) (Or.inl ⟨by rfl, ?_⟩) ?_ ?_
                    rotate_left
                    · intro w'
                      go_simp
                      with_reducible rfl
                    rotate_left
                    · simp only [Act.put, List.setIfInBounds_toArray, List.set_cons_zero, List.set_cons_succ, i64_w, i32_w]
                      rfl
                    refine join_ (σ := Value × Value × Value) 3 #[true, true, true, true, true, true, true, true, false, true, true, true, false, false] (fun s_ => [(44, s_.1), (48, s_.2.1), (51, s_.2.2)]) (fun s_ w' => (Kd.R k46 46 w' w.heap.size (fun k_ => some k_ ≠ (s_.2.2 : Value).ownBlock) s_.2.1 y182) ∧ (Kd.R k46 46 w' w.heap.size (fun k_ => some k_ ≠ (s_.2.1 : Value).ownBlock) s_.2.2 y185) ∧ (Below w.heap.size w w')) ?_ ?_
                    rotate_left
                    · intro hCont
                      refine two_ (i := 0) (j := 7) (Ni := some 44) (Nj := some 51) #[true, true, true, true, false, true, true, false, false, true, true, true, false, false] #[false, true, true, true, false, true, true, true, false, true, true, true, false, false] rfl rfl rfl rfl (two_of HT_.out (by kernel_rfl)) (by decide) (by decide) (fun K hK => ?_) (fun K hK => ?_)
                      · skip
                        refine Kd.R_lit_step k46 _ 46 ?hg (N := 44) ?hd (xs := ([] : List (S46))) (inner := []) (ok := fun _ => True) (okp := fun _ => True) ?hr ?hp (fun _ hk => hk) trivial (Below.refl _ _) (Nat.le_refl _) (by simp) ?_; (case hd => rfl); (case hg => rfl); (case hr => first | (go_simp; done) | (go_simp; rfl)); (case hp => exact (Reps.none _ _))
                        intro v176 w81 ho82 hb hg_ hnew_
                        clear hg_ hnew_
                        (first | rw [← Ny175.out] at ho82 | (simp only [Int.reduceToNat] at ho82; rw [← Ny175.out] at ho82))
                        have n0_ := Aside0.mk (Kd.R_lower ho82 (below_size (by repeat (first | (with_reducible first | exact HB.out | apply below_alloc | apply pw_below_drewN | apply below_drew1) | exact HB.out))))
                        have n1_ := Aside0.mk (below_step (by repeat (first | (with_reducible first | exact HB.out | apply below_alloc | apply pw_below_drewN | apply below_drew1) | exact HB.out)) hb)
                        clear HB
                        have HO177 := n0_
                        have HB := n1_
                        clear n0_ n1_
                        clear hb ho82
                        refine hK.out _ _ trivial (fun hHeld => ?_)
                        clear hK K
                        refine norm_ (a' := ?_) ?_ ?_
                        rotate_left
                        · show Act.put _ (some 44) _ = _
                          simp only [Act.put, List.setIfInBounds_toArray, List.set_cons_zero, List.set_cons_succ, i64_w, i32_w]
                          rfl
                        refine two_ (i := 4) (j := 7) (Ni := some 48) (Nj := some 51) #[true, true, true, true, true, true, true, false, false, true, true, true, false, false] #[true, true, true, true, false, true, true, true, false, true, true, true, false, false] rfl rfl rfl rfl (two_of HT_.out (by kernel_rfl)) (by decide) (by decide) (fun K hK => ?_) (fun K hK => ?_)
                        · skip
                          refine Kd.R_append_rows_step k46 (w0 := w) w.heap.size (by rfl) (.tmp 44) (.tmp 47) 35 46 (.agg #[(.int .i64 0), (.int .i64 0)]) 16 rfl Try.underlying35 info46 rfl (by decide) (by omega) v176 y175 y178 _ _ _ (fun _ => True) (fun _ => False) rfl rfl ?aO ?aR (fun _ _ h => h) (fun _ h => h.elim) ?aF ?aB ?aS ?aL ?_
                          (case aR => repeat (first | exact (Kd.C_below HR181.out HB.out) | (with_reducible refine Kd.C_alloc ?_ _) | (with_reducible refine Kd.C_drewN ?_ _) | (with_reducible refine Kd.C_drew ?_)))
                          (case aB => exact (by repeat (first | (with_reducible first | exact HB.out | apply below_alloc | apply pw_below_drewN | apply below_drew1) | exact HB.out)))
                          (case aF => exact (fun _ _ => trivial))
                          (case aO => exact (by (with_reducible repeat (first | apply Kd.R_alloc | apply Kd.R_drewN | apply Kd.R_drew)); exact HO177.out))
                          (case aS => exact (below_size (by repeat (first | (with_reducible first | exact HB.out | apply below_alloc | apply pw_below_drewN | apply below_drew1) | exact HB.out))))
                          (case aL => have := LMc73.out; omega)
                          intro v183 w83 ho hb hg hat
                          rw [← Ny182.out] at ho
                          have n0_ := Aside0.mk (hb)
                          have n1_ := Aside0.mk (ho)
                          clear HB
                          clear HO177
                          have HB := n0_
                          have HO184 := n1_
                          clear n0_ n1_
                          clear ho hb hg hat
                          refine hK.out _ _ trivial (fun hHeld => ?_)
                          clear hK K
                          refine norm_ (a' := ?_) ?_ ?_
                          rotate_left
                          · show Act.put _ (some 48) _ = _
                            simp only [Act.put, List.setIfInBounds_toArray, List.set_cons_zero, List.set_cons_succ, i64_w, i32_w]
                            rfl
                          refine one_ (i := 7) (N := some 51) #[true, true, true, true, true, true, true, true, false, true, true, true, false, false] rfl rfl (one_of HT_.out (by kernel_rfl)) (by decide) (fun K hK => ?_)
                          refine Kd.R_lit_step k46 _ 46 ?hg (N := 51) ?hd (xs := ([(⟨a1, 1⟩ : S46)] : List (S46))) (inner := [.int .i64 a1, .int .i64 1]) (ok := fun _ => True) (okp := fun _ => True) ?hr ?hp (fun _ hk => hk) trivial (Below.refl _ _) (Nat.le_refl _) (by simp) ?_; (case hd => rfl); (case hg => rfl); (case hr => first | (go_simp; done) | (go_simp; rfl)); (case hp => exact (Reps.c2 (show Kd.M k46 _ _ _ (⟨a1, 1⟩ : S46) [.int .i64 a1, .int .i64 1] from (k46_mkM _ _ _ (⟨a1, 1⟩ : S46) )) (Reps.none _ _)))
                          intro v186 w84 ho85 hb hg_ hnew_
                          clear hg_ hnew_
                          (first | rw [← Ny185.out] at ho85 | (simp only [Int.reduceToNat] at ho85; rw [← Ny185.out] at ho85))
                          have n0_ := Aside0.mk (Kd.R_elder' (by (with_reducible repeat (first | apply Kd.R_alloc | apply Kd.R_drewN | apply Kd.R_drew)); exact HO184.out) (Kd.R_base ho85) hb)
                          have n1_ := Aside0.mk (Kd.R_lower (Kd.R_new' ho85 (Kd.R_lt (by (with_reducible repeat (first | apply Kd.R_alloc | apply Kd.R_drewN | apply Kd.R_drew)); exact HO184.out))) (below_size (by repeat (first | (with_reducible first | exact HB.out | apply below_alloc | apply pw_below_drewN | apply below_drew1) | exact HB.out))))
                          have n2_ := Aside0.mk (below_step (by repeat (first | (with_reducible first | exact HB.out | apply below_alloc | apply pw_below_drewN | apply below_drew1) | exact HB.out)) hb)
                          clear HO184
                          clear HB
                          have HO184 := n0_
                          have HO187 := n1_
                          have HB := n2_
                          clear n0_ n1_ n2_
                          clear hb ho85
                          refine hK.out _ _ trivial (fun hHeld => ?_)
                          clear hK K
                          refine norm_ (a' := ?_) ?_ ?_
                          rotate_left
                          · show Act.put _ (some 51) _ = _
                            simp only [Act.put, List.setIfInBounds_toArray, List.set_cons_zero, List.set_cons_succ, i64_w, i32_w]
                            rfl
                          exact norm_ (by simp only [putAll, Act.put, List.setIfInBounds_toArray, List.set_cons_zero, List.set_cons_succ]) (hCont (v176, v183, v186) _ ⟨(by (with_reducible repeat (first | apply Kd.R_alloc | apply Kd.R_drewN | apply Kd.R_drew)); exact Kd.R_mono HO184.out (fun _ hk => hk.2)), (by (with_reducible repeat (first | apply Kd.R_alloc | apply Kd.R_drewN | apply Kd.R_drew)); exact Kd.R_mono HO187.out (fun _ hk => hk.2)), (by repeat (first | (with_reducible first | exact HB.out | apply below_alloc | apply pw_below_drewN | apply below_drew1) | exact HB.out))⟩)
                        · skip
                          refine Kd.R_lit_step k46 _ 46 ?hg (N := 51) ?hd (xs := ([(⟨a1, 1⟩ : S46)] : List (S46))) (inner := [.int .i64 a1, .int .i64 1]) (ok := fun _ => True) (okp := fun _ => True) ?hr ?hp (fun _ hk => hk) trivial (Below.refl _ _) (Nat.le_refl _) (by simp) ?_; (case hd => rfl); (case hg => rfl); (case hr => first | (go_simp; done) | (go_simp; rfl)); (case hp => exact (Reps.c2 (show Kd.M k46 _ _ _ (⟨a1, 1⟩ : S46) [.int .i64 a1, .int .i64 1] from (k46_mkM _ _ _ (⟨a1, 1⟩ : S46) )) (Reps.none _ _)))
                          intro v186 w83 ho84 hb hg_ hnew_
                          clear hg_ hnew_
                          (first | rw [← Ny185.out] at ho84 | (simp only [Int.reduceToNat] at ho84; rw [← Ny185.out] at ho84))
                          have n0_ := Aside0.mk (Kd.R_elder' (by (with_reducible repeat (first | apply Kd.R_alloc | apply Kd.R_drewN | apply Kd.R_drew)); exact HO177.out) (Kd.R_base ho84) hb)
                          have n1_ := Aside0.mk (Kd.R_lower (Kd.R_new' ho84 (Kd.R_lt (by (with_reducible repeat (first | apply Kd.R_alloc | apply Kd.R_drewN | apply Kd.R_drew)); exact HO177.out))) (below_size (by repeat (first | (with_reducible first | exact HB.out | apply below_alloc | apply pw_below_drewN | apply below_drew1) | exact HB.out))))
                          have n2_ := Aside0.mk (below_step (by repeat (first | (with_reducible first | exact HB.out | apply below_alloc | apply pw_below_drewN | apply below_drew1) | exact HB.out)) hb)
                          clear HO177
                          clear HB
                          have HO177 := n0_
                          have HO187 := n1_
                          have HB := n2_
                          clear n0_ n1_ n2_
                          clear hb ho84
                          refine hK.out _ _ trivial (fun hHeld => ?_)
                          clear hK K
                          refine norm_ (a' := ?_) ?_ ?_
                          rotate_left
                          · show Act.put _ (some 51) _ = _
                            simp only [Act.put, List.setIfInBounds_toArray, List.set_cons_zero, List.set_cons_succ, i64_w, i32_w]
                            rfl
                          refine one_ (i := 4) (N := some 48) #[true, true, true, true, true, true, true, true, false, true, true, true, false, false] rfl rfl (one_of HT_.out (by kernel_rfl)) (by decide) (fun K hK => ?_)
                          refine Kd.R_append_rows_step k46 (w0 := w) w.heap.size (by rfl) (.tmp 44) (.tmp 47) 35 46 (.agg #[(.int .i64 0), (.int .i64 0)]) 16 rfl Try.underlying35 info46 rfl (by decide) (by omega) v176 y175 y178 _ _ _ (fun k_ => some k_ ≠ (v186 : Value).ownBlock) (fun _ => False) rfl rfl ?aO ?aR (fun _ _ h => h) (fun _ h => h.elim) ?aF ?aB ?aS ?aL ?_
                          (case aR => repeat (first | exact (Kd.C_below HR181.out HB.out) | (with_reducible refine Kd.C_alloc ?_ _) | (with_reducible refine Kd.C_drewN ?_ _) | (with_reducible refine Kd.C_drew ?_)))
                          (case aB => exact (by repeat (first | (with_reducible first | exact HB.out | apply below_alloc | apply pw_below_drewN | apply below_drew1) | exact HB.out)))
                          (case aF => exact (fun k_ hk => Kd.fresh' (Kd.R_lt (by (with_reducible repeat (first | apply Kd.R_alloc | apply Kd.R_drewN | apply Kd.R_drew)); exact HO187.out)) k_ hk))
                          (case aO => exact (by (with_reducible repeat (first | apply Kd.R_alloc | apply Kd.R_drewN | apply Kd.R_drew)); exact Kd.R_mono HO177.out (fun _ hk => hk.2)))
                          (case aS => exact (below_size (by repeat (first | (with_reducible first | exact HB.out | apply below_alloc | apply pw_below_drewN | apply below_drew1) | exact HB.out))))
                          (case aL => have := LMc73.out; omega)
                          intro v183 w85 ho hb hg hat
                          rw [← Ny182.out] at ho
                          have n0_ := Aside0.mk (Kd.R_after (ok := (fun _ => True)) (by (with_reducible repeat (first | apply Kd.R_alloc | apply Kd.R_drewN | apply Kd.R_drew)); exact HO187.out) hg hat)
                          have n1_ := Aside0.mk (hb)
                          have n2_ := Aside0.mk (ho)
                          clear HO187
                          clear HB
                          clear HO177
                          have HO187 := n0_
                          have HB := n1_
                          have HO184 := n2_
                          clear n0_ n1_ n2_
                          clear ho hb hg hat
                          refine hK.out _ _ trivial (fun hHeld => ?_)
                          clear hK K
                          refine norm_ (a' := ?_) ?_ ?_
                          rotate_left
                          · show Act.put _ (some 48) _ = _
                            simp only [Act.put, List.setIfInBounds_toArray, List.set_cons_zero, List.set_cons_succ, i64_w, i32_w]
                            rfl
                          exact norm_ (by simp only [putAll, Act.put, List.setIfInBounds_toArray, List.set_cons_zero, List.set_cons_succ]) (hCont (v176, v183, v186) _ ⟨(by (with_reducible repeat (first | apply Kd.R_alloc | apply Kd.R_drewN | apply Kd.R_drew)); exact HO184.out), (by (with_reducible repeat (first | apply Kd.R_alloc | apply Kd.R_drewN | apply Kd.R_drew)); exact Kd.R_mono HO187.out (fun _ hk => hk.2)), (by repeat (first | (with_reducible first | exact HB.out | apply below_alloc | apply pw_below_drewN | apply below_drew1) | exact HB.out))⟩)
                      · skip
                        refine Kd.R_lit_step k46 _ 46 ?hg (N := 51) ?hd (xs := ([(⟨a1, 1⟩ : S46)] : List (S46))) (inner := [.int .i64 a1, .int .i64 1]) (ok := fun _ => True) (okp := fun _ => True) ?hr ?hp (fun _ hk => hk) trivial (Below.refl _ _) (Nat.le_refl _) (by simp) ?_; (case hd => rfl); (case hg => rfl); (case hr => first | (go_simp; done) | (go_simp; rfl)); (case hp => exact (Reps.c2 (show Kd.M k46 _ _ _ (⟨a1, 1⟩ : S46) [.int .i64 a1, .int .i64 1] from (k46_mkM _ _ _ (⟨a1, 1⟩ : S46) )) (Reps.none _ _)))
                        intro v186 w81 ho82 hb hg_ hnew_
                        clear hg_ hnew_
                        (first | rw [← Ny185.out] at ho82 | (simp only [Int.reduceToNat] at ho82; rw [← Ny185.out] at ho82))
                        have n0_ := Aside0.mk (Kd.R_lower ho82 (below_size (by repeat (first | (with_reducible first | exact HB.out | apply below_alloc | apply pw_below_drewN | apply below_drew1) | exact HB.out))))
                        have n1_ := Aside0.mk (below_step (by repeat (first | (with_reducible first | exact HB.out | apply below_alloc | apply pw_below_drewN | apply below_drew1) | exact HB.out)) hb)
                        clear HB
                        have HO187 := n0_
                        have HB := n1_
                        clear n0_ n1_
                        clear hb ho82
                        refine hK.out _ _ trivial (fun hHeld => ?_)
                        clear hK K
                        refine norm_ (a' := ?_) ?_ ?_
                        rotate_left
                        · show Act.put _ (some 51) _ = _
                          simp only [Act.put, List.setIfInBounds_toArray, List.set_cons_zero, List.set_cons_succ, i64_w, i32_w]
                          rfl
                        refine one_ (i := 0) (N := some 44) #[true, true, true, true, false, true, true, true, false, true, true, true, false, false] rfl rfl (one_of HT_.out (by kernel_rfl)) (by decide) (fun K hK => ?_)
                        refine Kd.R_lit_step k46 _ 46 ?hg (N := 44) ?hd (xs := ([] : List (S46))) (inner := []) (ok := fun _ => True) (okp := fun _ => True) ?hr ?hp (fun _ hk => hk) trivial (Below.refl _ _) (Nat.le_refl _) (by simp) ?_; (case hd => rfl); (case hg => rfl); (case hr => first | (go_simp; done) | (go_simp; rfl)); (case hp => exact (Reps.none _ _))
                        intro v176 w83 ho84 hb hg_ hnew_
                        clear hg_ hnew_
                        (first | rw [← Ny175.out] at ho84 | (simp only [Int.reduceToNat] at ho84; rw [← Ny175.out] at ho84))
                        have n0_ := Aside0.mk (Kd.R_elder' (by (with_reducible repeat (first | apply Kd.R_alloc | apply Kd.R_drewN | apply Kd.R_drew)); exact HO187.out) (Kd.R_base ho84) hb)
                        have n1_ := Aside0.mk (Kd.R_lower (Kd.R_new' ho84 (Kd.R_lt (by (with_reducible repeat (first | apply Kd.R_alloc | apply Kd.R_drewN | apply Kd.R_drew)); exact HO187.out))) (below_size (by repeat (first | (with_reducible first | exact HB.out | apply below_alloc | apply pw_below_drewN | apply below_drew1) | exact HB.out))))
                        have n2_ := Aside0.mk (below_step (by repeat (first | (with_reducible first | exact HB.out | apply below_alloc | apply pw_below_drewN | apply below_drew1) | exact HB.out)) hb)
                        clear HO187
                        clear HB
                        have HO187 := n0_
                        have HO177 := n1_
                        have HB := n2_
                        clear n0_ n1_ n2_
                        clear hb ho84
                        refine hK.out _ _ trivial (fun hHeld => ?_)
                        clear hK K
                        refine norm_ (a' := ?_) ?_ ?_
                        rotate_left
                        · show Act.put _ (some 44) _ = _
                          simp only [Act.put, List.setIfInBounds_toArray, List.set_cons_zero, List.set_cons_succ, i64_w, i32_w]
                          rfl
                        refine one_ (i := 4) (N := some 48) #[true, true, true, true, true, true, true, true, false, true, true, true, false, false] rfl rfl (one_of HT_.out (by kernel_rfl)) (by decide) (fun K hK => ?_)
                        refine Kd.R_append_rows_step k46 (w0 := w) w.heap.size (by rfl) (.tmp 44) (.tmp 47) 35 46 (.agg #[(.int .i64 0), (.int .i64 0)]) 16 rfl Try.underlying35 info46 rfl (by decide) (by omega) v176 y175 y178 _ _ _ (fun k_ => some k_ ≠ (v186 : Value).ownBlock) (fun _ => False) rfl rfl ?aO ?aR (fun _ _ h => h) (fun _ h => h.elim) ?aF ?aB ?aS ?aL ?_
                        (case aR => repeat (first | exact (Kd.C_below HR181.out HB.out) | (with_reducible refine Kd.C_alloc ?_ _) | (with_reducible refine Kd.C_drewN ?_ _) | (with_reducible refine Kd.C_drew ?_)))
                        (case aB => exact (by repeat (first | (with_reducible first | exact HB.out | apply below_alloc | apply pw_below_drewN | apply below_drew1) | exact HB.out)))
                        (case aF => exact (fun k_ hk => Kd.fresh' (Kd.R_lt (by (with_reducible repeat (first | apply Kd.R_alloc | apply Kd.R_drewN | apply Kd.R_drew)); exact HO187.out)) k_ hk))
                        (case aO => exact (by (with_reducible repeat (first | apply Kd.R_alloc | apply Kd.R_drewN | apply Kd.R_drew)); exact Kd.R_mono HO177.out (fun _ hk => hk.2)))
                        (case aS => exact (below_size (by repeat (first | (with_reducible first | exact HB.out | apply below_alloc | apply pw_below_drewN | apply below_drew1) | exact HB.out))))
                        (case aL => have := LMc73.out; omega)
                        intro v183 w85 ho hb hg hat
                        rw [← Ny182.out] at ho
                        have n0_ := Aside0.mk (Kd.R_after (ok := (fun _ => True)) (by (with_reducible repeat (first | apply Kd.R_alloc | apply Kd.R_drewN | apply Kd.R_drew)); exact HO187.out) hg hat)
                        have n1_ := Aside0.mk (hb)
                        have n2_ := Aside0.mk (ho)
                        clear HO187
                        clear HB
                        clear HO177
                        have HO187 := n0_
                        have HB := n1_
                        have HO184 := n2_
                        clear n0_ n1_ n2_
                        clear ho hb hg hat
                        refine hK.out _ _ trivial (fun hHeld => ?_)
                        clear hK K
                        refine norm_ (a' := ?_) ?_ ?_
                        rotate_left
                        · show Act.put _ (some 48) _ = _
                          simp only [Act.put, List.setIfInBounds_toArray, List.set_cons_zero, List.set_cons_succ, i64_w, i32_w]
                          rfl
                        exact norm_ (by simp only [putAll, Act.put, List.setIfInBounds_toArray, List.set_cons_zero, List.set_cons_succ]) (hCont (v176, v183, v186) _ ⟨(by (with_reducible repeat (first | apply Kd.R_alloc | apply Kd.R_drewN | apply Kd.R_drew)); exact HO184.out), (by (with_reducible repeat (first | apply Kd.R_alloc | apply Kd.R_drewN | apply Kd.R_drew)); exact Kd.R_mono HO187.out (fun _ hk => hk.2)), (by repeat (first | (with_reducible first | exact HB.out | apply below_alloc | apply pw_below_drewN | apply below_drew1) | exact HB.out))⟩)
                    rintro ⟨v176, v183, v186⟩ w86 ⟨h0_, h1_, h2_⟩
                    have n0_ : Aside0 (Kd.R k46 46 w86 w.heap.size (fun k_ => some k_ ≠ (v186 : Value).ownBlock) v183 y182) := ⟨h0_⟩
                    have n1_ : Aside0 (Kd.R k46 46 w86 w.heap.size (fun k_ => some k_ ≠ (v183 : Value).ownBlock) v186 y185) := ⟨h1_⟩
                    have n2_ : Aside0 (Below w.heap.size w w86) := ⟨h2_⟩
                    clear HB
                    clear h0_ h1_ h2_
                    have HO184 := n0_
                    have HO187 := n1_
                    have HB := n2_
                    clear n0_ n1_ n2_
                    have hHeld := trivial
                    obtain ⟨Ao88, co88, eo88⟩ := Kd.R_slice HO187.out
                    (first | subst eo88 | (injection eo88 with f1_ f2_ f3_; have f4_ := f1_.symm; have f5_ := f3_.symm; clear f1_ f2_ f3_; subst f4_; subst f5_))
                    refine norm_ (a' := ?_) ?_ ?_
                    rotate_left
                    · simp only [putAll, Act.put, List.setIfInBounds_toArray, List.set_cons_zero, List.set_cons_succ]
                      rfl
                    refine one_ (i := 8) (N := some 52) #[true, true, true, true, true, true, true, true, true, true, true, true, false, false] rfl rfl (one_of HT_.out (by kernel_rfl)) (by decide) (fun K hK => ?_)
                    refine Kd.R_append_rows_step k46 (w0 := w) w.heap.size (by rfl) (.tmp 48) (.tmp 51) 35 46 (.agg #[(.int .i64 0), (.int .i64 0)]) 16 rfl Try.underlying35 info46 rfl (by decide) (by omega) v183 y182 y185 _ _ _ (fun k_ => some k_ ≠ (.slice Ao88 y185.length co88 : Value).ownBlock) (fun _ => False) rfl rfl ?aO ?aR (fun _ _ h => h) (fun _ h => h.elim) ?aF ?aB ?aS ?aL ?_
                    (case aR => repeat (first | exact (Kd.R_reads' HO187.out).2.2 | (with_reducible refine Kd.C_alloc ?_ _) | (with_reducible refine Kd.C_drewN ?_ _) | (with_reducible refine Kd.C_drew ?_)))
                    (case aB => exact (by repeat (first | (with_reducible first | exact HB.out | apply below_alloc | apply pw_below_drewN | apply below_drew1) | exact HB.out)))
                    (case aF => exact (fun k_ hk => Kd.fresh' (Kd.R_lt (by (with_reducible repeat (first | apply Kd.R_alloc | apply Kd.R_drewN | apply Kd.R_drew)); exact HO187.out)) k_ hk))
                    (case aO => exact (by (with_reducible repeat (first | apply Kd.R_alloc | apply Kd.R_drewN | apply Kd.R_drew)); exact HO184.out))
                    (case aS => exact (below_size (by repeat (first | (with_reducible first | exact HB.out | apply below_alloc | apply pw_below_drewN | apply below_drew1) | exact HB.out))))
                    (case aL => have := LMc74.out; omega)
                    intro v189 w87 ho hb hg hat
                    rw [← Ny188.out] at ho
                    have n0_ := Aside0.mk (Kd.R_after (ok := (fun _ => True)) (by (with_reducible repeat (first | apply Kd.R_alloc | apply Kd.R_drewN | apply Kd.R_drew)); exact Kd.R_mono HO187.out (fun _ hk => ⟨trivial, hk⟩)) hg hat)
                    have n1_ := Aside0.mk (hb)
                    have n2_ := Aside0.mk (ho)
                    clear HO187
                    clear HB
                    clear HO184
                    have HO187 := n0_
                    have HB := n1_
                    have HO190 := n2_
                    clear n0_ n1_ n2_
                    clear ho hb hg hat
                    refine hK.out _ _ trivial (fun hHeld => ?_)
                    clear hK K
                    refine norm_ (a' := ?_) ?_ ?_
                    rotate_left
                    · show Act.put _ (some 52) _ = _
                      simp only [Act.put, List.setIfInBounds_toArray, List.set_cons_zero, List.set_cons_succ, i64_w, i32_w]
                      rfl
                    refine one_ (i := 12) (N := some 56) #[true, true, true, true, true, true, true, true, true, true, true, true, true, false] rfl rfl (one_of HT_.out (by kernel_rfl)) (by decide) (fun K hK => ?_)
                    refine Kd.R_append_rows_step k46 (w0 := w) w.heap.size (by rfl) (.tmp 52) (.tmp 55) 35 46 (.agg #[(.int .i64 0), (.int .i64 0)]) 16 rfl Try.underlying35 info46 rfl (by decide) (by omega) v189 y188 y191 _ _ _ (fun k_ => some k_ ≠ (.slice Ao88 y185.length co88 : Value).ownBlock) (fun _ => False) rfl rfl ?aO ?aR (fun _ _ h => h) (fun _ h => h.elim) ?aF ?aB ?aS ?aL ?_
                    (case aR => repeat (first | exact (Kd.C_below HR194.out HB.out) | (with_reducible refine Kd.C_alloc ?_ _) | (with_reducible refine Kd.C_drewN ?_ _) | (with_reducible refine Kd.C_drew ?_)))
                    (case aB => exact (by repeat (first | (with_reducible first | exact HB.out | apply below_alloc | apply pw_below_drewN | apply below_drew1) | exact HB.out)))
                    (case aF => exact (fun k_ hk => Kd.fresh' (Kd.R_lt (by (with_reducible repeat (first | apply Kd.R_alloc | apply Kd.R_drewN | apply Kd.R_drew)); exact HO187.out)) k_ hk))
                    (case aO => exact (by (with_reducible repeat (first | apply Kd.R_alloc | apply Kd.R_drewN | apply Kd.R_drew)); exact HO190.out))
                    (case aS => exact (below_size (by repeat (first | (with_reducible first | exact HB.out | apply below_alloc | apply pw_below_drewN | apply below_drew1) | exact HB.out))))
                    (case aL => have := LMc77.out; omega)
                    intro v196 w89 ho hb hg hat
                    rw [← Ny195.out] at ho
                    have n0_ := Aside0.mk (Kd.R_after (ok := (fun _ => True)) (by (with_reducible repeat (first | apply Kd.R_alloc | apply Kd.R_drewN | apply Kd.R_drew)); exact HO187.out) hg hat)
                    have n1_ := Aside0.mk (hb)
                    have n2_ := Aside0.mk (ho)
                    clear HO187
                    clear HB
                    clear HO190
                    have HO187 := n0_
                    have HB := n1_
                    have HO197 := n2_
                    clear n0_ n1_ n2_
                    clear ho hb hg hat
                    refine hK.out _ _ trivial (fun hHeld => ?_)
                    clear hK K
                    refine norm_ (a' := ?_) ?_ ?_
                    rotate_left
                    · show Act.put _ (some 56) _ = _
                      simp only [Act.put, List.setIfInBounds_toArray, List.set_cons_zero, List.set_cons_succ, i64_w, i32_w]
                      rfl
                    refine pure_ (i := 13) (N := some 4) (v := ?_) (a' := ?_) #[true, true, true, true, true, true, true, true, true, true, true, true, true, true] rfl rfl (any_of HT_.out (by kernel_rfl)) (fun _ _ _ h => h) (Or.inl ⟨by rfl, ?_⟩) ?_ ?_
                    rotate_left
                    · intro w'
                      go_simp
                      with_reducible rfl
                    rotate_left
                    · simp only [Act.put, List.setIfInBounds_toArray, List.set_cons_zero, List.set_cons_succ, i64_w, i32_w]
                      rfl
                    refine done_ (done_of HT_.out (by kernel_rfl)) ?_
                    try go_wp2
                    go_ret
                    exact ⟨_, by first | rfl | (simp [errW_none, errW_some] <;> rfl) | (simp [*, errW_none, errW_some] <;> rfl), by (with_reducible repeat (first | apply Kd.R_alloc | apply Kd.R_drewN | apply Kd.R_drew)); exact Kd.R_mono HO197.out (fun _ hk => trivial), by repeat (first | (with_reducible first | exact HB.out | apply below_alloc | apply pw_below_drewN | apply below_drew1) | exact HB.out)⟩
                  · rw [if_neg c77] at H
                    exact absurd H (by simp)
                · rw [if_neg c74] at H
                  exact absurd H (by simp)
              · rw [if_neg c73] at H
                exact absurd H (by simp)
            · rw [if_neg c72] at H
              exact absurd H (by simp)
          · rw [if_neg c71] at H
            exact absurd H (by simp)
end Go.Proofs.Ytnpceipoakclbaa.Q

namespace Go.Proofs.YtnpceipoakclbaaW.PrintLast
open Go Go.RowKit Go.Proofs.YtnpceipoakclbaaW.PrintWords
structure KB (S : Nat → Prop) (W W' : World) : Prop where
  os : W'.os = W.os
  tape : W'.tape = W.tape
  output : W'.output = W.output
  size : W.heap.size ≤ W'.heap.size
  block : ∀ k, k < W.heap.size → ¬ S k → W'.heap[k]? = W.heap[k]?
def NoB (_ : Nat) : Prop := False
theorem KB.refl (S : Nat → Prop) (W : World) : KB S W W := ⟨rfl, rfl, rfl, Nat.le_refl _, fun _ _ _ => rfl⟩
theorem KB.trans {S : Nat → Prop} {A B C : World} (h : KB S A B) (k : KB S B C) : KB S A C :=
  ⟨k.os.trans h.os, k.tape.trans h.tape, k.output.trans h.output, Nat.le_trans h.size k.size, fun i hi hs => (k.block i (Nat.lt_of_lt_of_le hi h.size) hs).trans (h.block i hi hs)⟩
theorem KB.trans' {S T : Nat → Prop} {A B C : World} (h : KB S A B) (k : KB T B C) (hT : ∀ i, T i → i < A.heap.size → S i) : KB S A C :=
  ⟨k.os.trans h.os, k.tape.trans h.tape, k.output.trans h.output, Nat.le_trans h.size k.size, fun i hi hs => (k.block i (Nat.lt_of_lt_of_le hi h.size) (fun ht => hs (hT i ht hi))).trans (h.block i hi hs)⟩
theorem KB.mono {S T : Nat → Prop} {A B : World} (h : KB S A B) (hT : ∀ i, S i → i < A.heap.size → T i) : KB T A B :=
  ⟨h.os, h.tape, h.output, h.size, fun i hi hs => h.block i hi (fun hss => hs (hT i hss hi))⟩
theorem KB.alloc {S : Nat → Prop} {A B : World} (h : KB S A B) (o : Obj) : KB S A (B.alloc o) :=
  h.trans ⟨rfl, rfl, rfl, by simp, fun k hk _ => Below.heap_alloc _ _ _ hk⟩
theorem KB.setCell {S : Nat → Prop} {A B : World} (h : KB S A B) {p : Addr} (hp : S p.block ∨ A.heap.size ≤ p.block) (u : Value) : KB S A (B.setCell p u) :=
  ⟨h.os, h.tape, h.output, by have := h.size; simpa [World.setCell] using this, fun k hk hs => (Below.heap_setCell _ _ _ _ (fun e => by subst e; rcases hp with hp | hp; exact hs hp; omega)).trans (h.block k hk hs)⟩
theorem KB.set1 (W : World) (b : Nat) (v : Value) : KB (fun k => k = b) W (W.setCell ⟨b, 0, none⟩ v) := KB.setCell (S := fun k => k = b) (KB.refl _ _) (.inl rfl) v
theorem KB.drew {S : Nat → Prop} {A B : World} (h : KB S A B) : KB S A B.drew := ⟨h.os, h.tape, h.output, h.size, h.block⟩
theorem KB.drewN {S : Nat → Prop} {A B : World} (h : KB S A B) (n : Nat) : KB S A (B.drewN n) := ⟨h.os, h.tape, h.output, h.size, h.block⟩
theorem KB.put1 (W : World) (b : Nat) (o : Obj) : KB (fun k => k = b) W (W.putObj b o) := ⟨rfl, rfl, rfl, by simp, fun k _ hs => World.putObj_heap_other hs⟩
theorem KB.putObj {S : Nat → Prop} {A B : World} (h : KB S A B) {r : Nat} (hr : S r ∨ A.heap.size ≤ r) (o : Obj) : KB S A (B.putObj r o) :=
  ⟨h.os, h.tape, h.output, by have := h.size; simpa using this, fun k hk hs => (World.putObj_heap_other (fun e => by subst e; rcases hr with hr | hr; exact hs hr; omega)).trans (h.block k hk hs)⟩
theorem KB.of_below {w w' : World} (h : Below w.heap.size w w') : KB NoB w w' := ⟨h.os, h.tape, h.output, h.size, fun k hk _ => h.block k hk⟩
theorem KB.below {S : Nat → Prop} {w w' : World} {B : Nat} (h : KB S w w') (hB : B ≤ w.heap.size) (hS : ∀ k, S k → B ≤ k) : Below B w w' := ⟨h.os, h.tape, h.output, h.size, fun k hk => h.block k (by omega) (fun hs => by have := hS k hs; omega)⟩
theorem KB.boxed {S : Nat → Prop} {W W' : World} (h : KB S W W') {B : Nat} (hB : ¬ S B) {t : TypeId} {v : Value} (hv : Boxed W B t v) : Boxed W' B t v := (h.block B hv.lt hB).trans hv
theorem KB.get {S : Nat → Prop} {W W' : World} (h : KB S W W') {B : Nat} (hB : ¬ S B) {o : Obj} (hv : W.heap[B]? = some o) : W'.heap[B]? = some o := (h.block B (Array.getElem?_eq_some_iff.1 hv).1 hB).trans hv
theorem KB.cell {S : Nat → Prop} {W W' : World} (h : KB S W W') {a : Addr} (hB : ¬ S a.block) {v : Value} (hv : W.cell? a = some v) : W'.cell? a = some v :=
  (World.cell?_of_block (w := W) (h.block _ (World.block_lt_of_cell? W a hv) hB)).trans hv
def ElemB (e : TypeId) (W : World) (k : Nat) : Prop := ∃ cs fz, W.heap[k]? = some (.cells cs e fz)
def MineE (Mine : Nat → Prop) (L : Nat) (e : TypeId) (W : World) (k : Nat) : Prop := Mine k ∨ (L ≤ k ∧ ElemB e W k)
theorem own_KB {S : Nat → Prop} {W W' : World} {base : Nat} {e : TypeId} {size n : Nat} {v : Value} {xs : List Value} (h : W.ownsRow base e size v n xs) (hk : KB S W W') (hS : ∀ k, S k → k < base) : W'.ownsRow base e size v n xs := by
  refine own_move h fun k hv => ?_
  rcases h.2 with ⟨rfl, _⟩ | ⟨g, cap, cur, rfl, hg, hh, r⟩
  · simp [Value.ownBlock] at hv
  · have e1 : g = k := by simpa [Value.ownBlock] using hv
    subst e1
    exact hk.block g (Array.getElem?_eq_some_iff.1 hh).1 (fun hs => by have := hS g hs; omega)
def IterK {α : Type} (P : Program) (e : TypeId) (gf : Nat) (lb : Array Value) (encs : α → Array Value) (xs : List α) (Wr Rd : Nat → Prop) (w0 : World) : Prop :=
  ∀ (n l : Nat) (J : List α → World → Prop) (Mine : Nat → Prop) (W : World), KB NoB w0 W → (∀ k, Mine k → k < W.heap.size ∧ ¬ Rd k) →
    (∀ pre W1 W2, J pre W1 → KB Wr W1 W2 → J pre W2) →
    (∀ pre x rest W1, pre ++ x :: rest = xs → J pre W1 → YieldAt Fence.wide (n - 1) P l (encs x) W1 fun en W' => en = .returned (.bool true) ∧ J (pre ++ [x]) W' ∧ KB (MineE Mine W.heap.size e W1) W1 W') →
    J [] W →
    CallsIn Fence.wide n P gf (#[.func (.yield l) #[] #[]] ++ lb) W fun e W' => (∃ v, e = .returned v) ∧ J xs W'
def rfPost (R : World → Prop) : Exit → Act → World → Prop
  | .normal, _, W' => R W'
  | .ret, _, _ => False
  | .exit _, _, _ => False
  | .goto _, _, _ => False
  | .panic _, _, _ => False
  | .outgrown, _, _ => False
theorem rf_law {α : Type} {P : Program} {g : Operand} {ps : Array Tmp} {assign body : Code} {Q : Exit → Act → World → Prop} {a : Act} {w : World} {n : Nat} {gf : Nat} {lb : Array Value}
    (hg : a.eval g = .func (.func gf) #[] lb) (eg : ∀ args w, (callFunc gf args).run P w = .ok (.enter gf args) w)
    {ty : TypeId} {encs : α → Array Value} {xs : List α} {Wr Rd : Nat → Prop} (hit : IterK P ty gf lb encs xs Wr Rd w) (hps : ∀ x, (encs x).size = ps.size)
    (hWr : ∀ k, Wr k → k < w.heap.size) (hRd : ∀ k, Rd k → k < w.heap.size)
    (Mine : Nat → Prop) (hM : ∀ k, Mine k → k < w.heap.size ∧ ¬ Rd k)
    (I : List α → World → Prop) (hI : ∀ pre W W', I pre W → KB (fun k => Wr k ∨ k = w.heap.size ∨ k = w.heap.size + 1) W W' → I pre W') (h0 : I [] w)
    (hround : ∀ l pre x rest W, pre ++ x :: rest = xs → l = w.heap.size + 1 → l < W.heap.size → KB (fun k => Mine k ∨ Wr k) w W → I pre W →
      assign.wpIn (Fence.wide.inRound l) (n - 1 - 1) P (Exit.then (fun a₁ W₁ => KB NoB W W₁ ∧ ∀ W₂, W₂.heap.size = W₁.heap.size → KB (fun k => k = l) W₁ W₂ →
        body.wpIn (Fence.wide.inRound l) (n - 1 - 1) P (rfPost fun W' => KB (MineE Mine (w.heap.size + 2) ty W₂) W₂ W' ∧ I (pre ++ [x]) W') a₁ W₂) (fun _ _ _ => False))
        { tmps := (ps.zip (encs x)).foldl (fun t (p, v) => t.setIfInBounds p v) a.tmps, defers := [] } W)
    (hdone : ∀ D W, D = w.heap.size → KB (fun k => Mine k ∨ Wr k) w W → I xs W → W.heap[D]? = some (.deferred (some [])) → Q .normal { a with defers := { target := .collected D, args := #[] } :: a.defers } W) :
    (Code.rangeFunc g ps assign body).wpIn Fence.wide n P Q a w := by
  refine wpIn_rangeFunc ?_
  intro fn hfn
  rw [show Fence.wide.round = none from rfl]
  obtain ⟨rec, hrec⟩ : ∃ rec : LoopState → Option Code → Loop, rec = fun st pe => { state := st, pending := pe, fn, tmps := a.tmps, params := ps, assign, body, defers := w.heap.size } := ⟨_, rfl⟩
  obtain ⟨W1, hW1⟩ : ∃ W1, (w.alloc (.deferred (some []))).alloc (.loop (rec .ready none)) = W1 := ⟨_, rfl⟩
  have hL1 : W1.heap[w.heap.size + 1]? = some (.loop (rec .ready none)) := by
    rw [← hW1]; have := World.alloc_heap_new (w.alloc (.deferred (some []))) (.loop (rec .ready none)); rwa [World.size_alloc] at this
  have hK1 : W1.heap[w.heap.size]? = some (.deferred (some [])) := by
    rw [← hW1]; exact (Below.heap_alloc _ _ _ (by simp)).trans (World.alloc_heap_new w _)
  have hs1 : W1.heap.size = w.heap.size + 2 := by rw [← hW1]; simp
  have hk1 : KB NoB w W1 := by rw [← hW1]; exact ((KB.refl _ _).alloc _).alloc _
  have hI1 : I [] W1 := hI _ _ _ h0 (hk1.mono (fun _ h _ => h.elim))
  refine ⟨w.heap.size + 1, [{ target := .collected w.heap.size, args := #[] }], W1, { target := .fn (.func gf) lb, args := #[.func (.yield (w.heap.size + 1)) #[] #[]] }, W1, gf,
    #[.func (.yield (w.heap.size + 1)) #[] #[]] ++ lb, W1, ?_, ?_, ?_, ?_, (fun h => by cases h), ?_⟩
  · rw [← hW1, hrec]; exact run_enterLoop_outer _ _ _ _ _
  · simp only [resolve, hg]
    simp [go_sem]
  · intro f' hf'; trivial
  · simp [invoke, go_sem, eg]
  · refine (hit (n - 1) (w.heap.size + 1)
      (fun pre W => I pre W ∧ KB (fun k => Mine k ∨ Wr k) w W ∧ W.heap[w.heap.size + 1]? = some (.loop (rec .ready none)) ∧ W.heap[w.heap.size]? = some (.deferred (some [])))
      (fun k => Mine k ∨ k = w.heap.size + 1) W1 hk1 ?_ ?_ ?_ ⟨hI1, hk1.mono (fun _ h _ => h.elim), hL1, hK1⟩).mono ?_
    · rintro k (hk | rfl)
      · exact ⟨by have := (hM k hk).1; omega, (hM k hk).2⟩
      · exact ⟨by omega, fun h => by have := hRd _ h; omega⟩
    · rintro pre A B ⟨hi, hb, hl, hd⟩ hk
      exact ⟨hI _ _ _ hi (hk.mono (fun i h _ => .inl h)), hb.trans (hk.mono (fun i h _ => .inr h)), hk.get (fun h => by have := hWr _ h; omega) hl, hk.get (fun h => by have := hWr _ h; omega) hd⟩
    · rintro pre x rest W hx ⟨hi, hb, hl, hd⟩
      have hlt : w.heap.size + 1 < W.heap.size := (Array.getElem?_eq_some_iff.1 hl).1
      have hy := run_yield (P := P) (args := encs x) hl (by rw [hrec]; exact hps x)
      rw [hrec] at hy
      refine ⟨fn, _, assign, body, hy, roundIn_of_wpIn hfn ?_⟩
      refine wpIn_mono (hround _ pre x rest W hx rfl hlt hb hi) ?_
      rintro e a₁ W₁ hq
      cases e with
      | normal =>
        obtain ⟨hk1, hbody⟩ := hq
        have hl1 := hk1.get (fun h => h) hl
        refine ⟨_, run_beginRound hl1 (by rw [hrec]), ?_⟩
        refine wpIn_mono (hbody (W₁.putObj (w.heap.size + 1) (.loop { rec .ready none with state := .busy })) (by simp) ((KB.refl (fun k => k = w.heap.size + 1) _).putObj (.inl rfl) _)) ?_
        have hl2 : (W₁.putObj (w.heap.size + 1) (.loop { rec .ready none with state := .busy })).heap[w.heap.size + 1]? = some (.loop { rec .ready none with state := .busy }) := World.putObj_heap_same (Nat.lt_of_lt_of_le hlt hk1.size)
        rintro e a3 W3 hp
        cases e with
        | normal =>
          obtain ⟨hk3, hi3⟩ := hp
          have hml : ¬ MineE Mine (w.heap.size + 2) ty (W₁.putObj (w.heap.size + 1) (.loop { rec .ready none with state := .busy })) (w.heap.size + 1) := fun h => by rcases h with h | h; (have := (hM _ h).1; omega); omega
          have hmd : ¬ MineE Mine (w.heap.size + 2) ty (W₁.putObj (w.heap.size + 1) (.loop { rec .ready none with state := .busy })) w.heap.size := fun h => by rcases h with h | h; (have := (hM _ h).1; omega); omega
          have hl3 := hk3.get hml hl2
          have hd1 := hk1.get (fun h => h) hd
          have hd2 : (W₁.putObj (w.heap.size + 1) (.loop { rec .ready none with state := .busy })).heap[w.heap.size]? = some (.deferred (some [])) := (World.putObj_heap_other (by omega)).trans hd1
          have hd3 := hk3.get hmd hd2
          have hend := run_endRound (P := P) none hl3
          have hkA : KB (fun k => (Mine k ∨ k = w.heap.size + 1) ∨ (W1.heap.size ≤ k ∧ ElemB ty W k)) W (W₁.putObj (w.heap.size + 1) (.loop { rec .ready none with state := .busy })) := (hk1.mono (fun _ h _ => h.elim)).putObj (.inl (.inl (.inr rfl))) _
          have hkB : KB (fun k => (Mine k ∨ k = w.heap.size + 1) ∨ (W1.heap.size ≤ k ∧ ElemB ty W k)) W W3 := hkA.trans' hk3 (fun i h hi => by
            rcases h with h | ⟨h, cs, fz, hc⟩
            · exact .inl (.inl h)
            · refine .inr ⟨by omega, cs, fz, ?_⟩
              rw [World.putObj_heap_other (by omega)] at hc
              exact (hk1.block i hi (fun h => h)).symm.trans hc)
          have hkC := hkB.putObj (r := w.heap.size + 1) (.inl (.inl (.inr rfl))) (.loop (rec .ready none))
          refine ⟨_, _, hend, rfl, ?_, ?_⟩
          · have e1 : (Obj.loop { { rec .ready none with state := .busy } with state := if (none : Option Code).isNone then .ready else .done, pending := none }) = .loop (rec .ready none) := by rw [hrec]; rfl
            rw [e1]
            refine ⟨hI _ _ _ hi3 ((KB.refl _ _).putObj (.inl (.inr (.inr rfl))) _), ?_, World.putObj_heap_same (Array.getElem?_eq_some_iff.1 hl3).1, (World.putObj_heap_other (by omega)).trans hd3⟩
            exact hb.trans' hkC (fun i h hi => by rcases h with (h | rfl) | h; exact .inl h; omega; omega)
          · have e1 : (Obj.loop { { rec .ready none with state := .busy } with state := if (none : Option Code).isNone then .ready else .done, pending := none }) = .loop (rec .ready none) := by rw [hrec]; rfl
            rw [e1]
            exact hkC
        | ret => exact hp.elim
        | exit id => exact hp.elim
        | goto t => exact hp.elim
        | panic ch => exact hp.elim
        | outgrown => exact hp.elim
      | ret => exact hq.elim
      | exit id => exact hq.elim
      | goto t => exact hq.elim
      | panic ch => exact hq.elim
      | outgrown => exact hq.elim
    · rintro e W2 ⟨⟨v, rfl⟩, hi, hb, hl, hd⟩
      refine ⟨none, _, by have := run_endLoop (P := P) hl (by rw [hrec]; simp); rw [hrec] at this; exact this, ?_⟩
      exact hdone _ _ rfl (hb.putObj (.inr (by omega)) _) (hI _ _ _ hi ((KB.refl _ _).putObj (.inl (.inr (.inr rfl))) _)) ((World.putObj_heap_other (by omega)).trans hd)
theorem cells_new_l (W : World) (cs : List Value) (t : TypeId) (j : Nat) (u : Value) (h : cs[j]? = some u) : (W.alloc (.cells cs.toArray t)).cell? ((⟨W.heap.size, 0, none⟩ : Addr).add j) = some u := by
  have e : ((⟨W.heap.size, 0, none⟩ : Addr).add j) = ⟨W.heap.size, j, none⟩ := by
    by_cases hj : j = 0
    · subst hj; rfl
    · simp [Addr.add]; exact hj
  rw [e, blk_cell (World.alloc_heap_new W _) j]
  simpa using h
def noDefer (ops : Array Oper) : Bool := ops.all fun o => match o.op with | .defer _ => false | _ => true
theorem noDefer_spec {ops : Array Oper} (h : noDefer ops = true) {i : Nat} {o : Oper} (ho : ops[i]? = some o) : ∀ c, o.op ≠ .defer c := by
  intro c hc
  unfold noDefer at h
  rw [Array.all_eq_true] at h
  obtain ⟨hi, rfl⟩ := Array.getElem?_eq_some_iff.1 ho
  have := h i hi
  rw [hc] at this
  cases this
theorem calls_round {P : Program} {f : FuncId} {args : Array Value} {w : World} {R : Ending → World → Prop} {l n : Nat} (h : Calls P f args w R) : CallsIn (Fence.wide.inRound l) n P f args w R :=
  CallsIn.inRound l (callsIn_wide.2 h)
theorem rows_round {P : Program} {row : String} {args : Array Value} {w : World} {R : Value → World → Prop} {l n : Nat} (h : Rows P row args w R) : RowsIn (Fence.wide.inRound l) n P row args w R := fun c cs _ => by
  obtain ⟨v, w', r, s⟩ := h c cs
  refine ⟨v, w', r, ?_⟩
  have s' := stepsIn_wide.2 s
  exact s'
theorem wpOpsIn_round {P : Program} {ops : Array Oper} {Q : Exit → Act → World → Prop} {l n : Nat} (hd : noDefer ops = true) (hL : ¬ LetsOut Q) : ∀ (is : List Nat) (a : Act) (w : World), wpOps P ops Q is a w → wpOpsIn (Fence.wide.inRound l) n P ops Q is a w := by
  intro is
  induction is with
  | nil => intro a w h; exact h
  | cons i is ih =>
    intro a w h
    unfold wpOps at h
    unfold wpOpsIn
    cases ho : ops[i]? with
    | none => rw [ho] at h; exact ih _ _ h
    | some o =>
      rw [ho] at h
      dsimp only at h ⊢
      by_cases hw : Region.wanted o (yielded ops a.tmps) = true
      · rw [if_pos hw] at h ⊢
        rcases h with h | ⟨_, h⟩
        · refine ⟨fun _ _ => trivial, ?_⟩
          rw [show (Fence.wide.inRound l).round = some l from rfl, Oper.semAt_some _ _ _ (noDefer_spec hd ho)]
          unfold Oper.wp at h
          generalize (execOp a.eval o).run P w = r at h ⊢
          cases r with
          | ok x w' =>
            cases x with
            | value v => exact ih _ _ h
            | skip => exact ih _ _ h
            | defer d => exact ih _ _ h
            | enter f args => exact ⟨fun h => (by cases h), (calls_round h).mono fun e w'' he => by cases e with | returned v => exact ih _ _ he | panicked c => exact he | outgrown => exact he⟩
            | row row args => exact ⟨fun h => (by cases h), (rows_round h).mono fun v w'' he => ih _ _ he⟩
            | _ => exact h.elim
          | halt x w' => cases x <;> first | exact h | exact h.elim
        · exact absurd h hL
      · rw [if_neg hw] at h ⊢
        exact ⟨fun _ _ => trivial, ih _ _ h⟩
def wpAnyL (P : Program) (md : Region.Mode) (ops : Array Oper) (Q : Exit → Act → World → Prop) (S : World → Prop) (m : Nat) : Nat → Array Bool → Act → World → Prop
  | 0, listed, a, w => Region.ready md ops listed = [] ∧ Q .normal a w
  | fuel + 1, listed, a, w =>
    (Region.ready md ops listed = [] → Q .normal a w) ∧
    ∀ i ∈ Region.ready md ops listed, wpOp P ops Q i (fun a' w' => (i ≠ m → S w') ∧ wpAnyL P md ops Q S m fuel (listed.setIfInBounds i true) a' w') a w
section
variable {P : Program} {ops : Array Oper} {Q : Exit → Act → World → Prop} {S : World → Prop} {md : Region.Mode}
theorem wpAny_of_L {m : Nat} : ∀ (fuel : Nat) (listed : Array Bool) (a : Act) (w : World), wpAnyL P md ops Q S m fuel listed a w → wpAny P md ops Q fuel listed a w := by
  intro fuel
  induction fuel with
  | zero => intro _ _ _ h; exact h
  | succ fuel ih => intro _ _ _ h; exact ⟨h.1, fun i hi => wpOp_mono (fun a' w' hh => ih _ a' w' hh.2) (h.2 i hi)⟩
def waits (md : Region.Mode) (ops : Array Oper) (m i : Nat) : Bool := ((ops[m]?).map fun o => o.after.any fun e => Region.binds md e && e.on == i).getD false
theorem waits_not {m i : Nat} {listed : Array Bool} (hw : waits md ops m i = true) (hl : listed.getD i true = false) : m ∉ Region.ready md ops listed := by
  intro h
  obtain ⟨_, o, ho, hall⟩ := mem_ready.1 h
  unfold waits at hw
  rw [ho] at hw
  simp only [Option.map_some, Option.getD_some, Array.any_eq_true, Bool.and_eq_true, beq_iff_eq] at hw
  obtain ⟨k, hk, hb, hon⟩ := hw
  have h1 := hall _ (Array.getElem_mem hk) hb
  rw [hon] at h1
  by_cases hi : i < listed.size
  · simp only [Array.getD, dif_pos hi] at hl h1
    rw [hl] at h1
    cases h1
  · simp only [Array.getD, dif_neg hi] at h1
    cases h1
theorem wpAnyL_first {i m : Nat} {oi : Oper} {v : Value} (hi : ops[i]? = some oi) (hm : waits md ops m i = true) (hsel : ∀ (j : Nat) (o : Oper) cs b, ops[j]? = some o → o.op ≠ .select cs b)
    (hQ : ∀ c a w, Q (.panic c) (a.put oi.dst v) w → Q (.panic c) a w) : ∀ (fuel : Nat) (listed : Array Bool) (a : Act) (w : World),
      (∀ j oj, ops[j]? = some oj → j ≠ i → listed.getD j true = false → (∀ e ∈ oj.after, Region.binds md e = true → e.on ≠ i) → oi.apart ops oj = true) →
      i ∈ Region.ready md ops listed → YieldsIf P ops S oi v a → S w →
      wpAnyL P md ops Q S m fuel (listed.setIfInBounds i true) (a.put oi.dst v) w → wpAnyL P md ops Q S m (fuel + 1) listed a w := by
  intro fuel
  induction fuel with
  | zero =>
    intro listed a w _ hr hy hS H
    refine ⟨fun h => (by rw [h] at hr; cases hr), fun j hj => ?_⟩
    by_cases e : j = i
    · subst e
      exact hy.wpOp hi hS ⟨fun _ => hS, H⟩
    · have := ready_mono hj e
      rw [H.1] at this
      cases this
  | succ fuel ih =>
    intro listed a w hfree hr hy hS H
    refine ⟨fun h => (by rw [h] at hr; cases hr), fun j hj => ?_⟩
    by_cases e : j = i
    · subst e
      exact hy.wpOp hi hS ⟨fun _ => hS, H⟩
    · have hil := (mem_ready.1 hr).1
      have hjm : j ≠ m := fun h => waits_not hm hil (h ▸ hj)
      obtain ⟨hjl, oj, hoj, hall⟩ := mem_ready.1 hj
      have hno : ∀ x ∈ oj.after, Region.binds md x = true → x.on ≠ i := fun x hx hb hon => by
        have hw : waits md ops j i = true := by
          unfold waits
          rw [hoj]
          simp only [Option.map_some, Option.getD_some, Array.any_eq_true, Bool.and_eq_true, beq_iff_eq]
          obtain ⟨k, hk, rfl⟩ := Array.mem_iff_getElem.1 hx
          exact ⟨k, hk, hb, hon⟩
        exact waits_not hw hil hj
      have h2 := wpOp_putIf hoj (hfree j oj hoj e hjl hno) (fun cs b => hsel i oi cs b hi) (fun cs b => hsel j oj cs b hoj) hQ hy (H.2 j (ready_mono hj e))
      have hfree' : ∀ k ok, ops[k]? = some ok → k ≠ i → (listed.setIfInBounds j true).getD k true = false → (∀ x ∈ ok.after, Region.binds md x = true → x.on ≠ i) → oi.apart ops ok = true := fun k ok hk hki hun hx => by
        by_cases ejk : j = k
        · exact hfree k ok hk hki (ejk ▸ hjl) hx
        · exact hfree k ok hk hki (by rwa [getD_set_ne true ejk] at hun) hx
      refine wpOp_mono (fun a' w' h3 => ⟨fun _ => h3.2.1 hjm, ih _ a' w' hfree' (ready_mono hr (Ne.symm e)) h3.1 (h3.2.1 hjm) ?_⟩) h2
      rw [Array.setIfInBounds_comm _ _ e]
      exact h3.2.2
theorem held_take (i : Nat) (d : Tmp) (v : Value) {m : Nat} {oi : Oper} {fuel : Nat} {listed : Array Bool} {tm : Array Value} {df : List Deferred} {w : World} (hi : ops[i]? = some oi) (hdst : oi.dst = some d)
    (hm : waits md ops m i = true) (hs : Region.noSelect ops = true) (hf : Region.free md ops listed i = true) (hr : (Region.ready md ops listed).contains i = true)
    (hQ : ∀ c a w, Q (.panic c) (a.put oi.dst v) w → Q (.panic c) a w) (hw : Region.wanted oi (yielded ops tm) = true) (hy : ∀ w, S w → (execOp ({ tmps := tm, defers := df } : Act).eval oi).run P w = .ok (.value v) w) (hS : S w)
    (h : wpAnyL P md ops Q S m fuel (listed.setIfInBounds i true) { tmps := tm.setIfInBounds d v, defers := df } w) : wpAnyL P md ops Q S m (fuel + 1) listed { tmps := tm, defers := df } w := by
  refine wpAnyL_first hi hm (Region.noSelect_spec hs) hQ fuel listed _ w (Region.free_spec hi hf) (by simpa using hr) (.inl ⟨hw, hy⟩) hS ?_
  rw [hdst]
  exact h
theorem held_one {i m : Nat} {o : Oper} {fuel : Nat} {listed : Array Bool} {a : Act} {w : World} (hr : Region.ready md ops listed = [i]) (ho : ops[i]? = some o)
    (h : ∀ K' : Act → World → Prop, (∀ a w, (i ≠ m → S w) → wpAnyL P md ops Q S m fuel (listed.setIfInBounds i true) a w → K' a w) → if Region.wanted o (yielded ops a.tmps) = true then Oper.wp P o a w K' Q else K' (a.put o.dst undef) w) :
    wpAnyL P md ops Q S m (fuel + 1) listed a w := by
  refine ⟨fun h0 => (by rw [hr] at h0; cases h0), fun j hj => ?_⟩
  rw [hr] at hj
  obtain rfl := List.mem_singleton.1 hj
  exact wpOp_step ho (fun K' hK => h K' (fun a w hS hW => hK a w ⟨hS, hW⟩))
theorem held_done {m : Nat} {listed : Array Bool} {a : Act} {w : World} (hr : Region.ready md ops listed = []) (h : Q .normal a w) : wpAnyL P md ops Q S m 0 listed a w := ⟨hr, h⟩
end
theorem wpIn_region_heldR {P : Program} {ops : Array Oper} {Q : Exit → Act → World → Prop} {l n id : Nat} {a : Act} {w : World} (S : World → Prop) (m : Nat) (hm : P.follows .mixedOrders = true) (hd : noDefer ops = true) (hL : ¬ LetsOut Q) (hS : S w.drew)
    (h : S w.drew → wpAnyL P .any ops Q S m ops.size (Array.replicate ops.size false) a w.drew) : (Code.region id ops true).wpIn (Fence.wide.inRound l) n P Q a w := by
  refine wpIn_region_draw fun t => wpOpsIn_round hd hL _ _ _ ?_
  simp only [Region.schedule, hm, Bool.true_or, if_true]
  exact wpAny_sound ops.size t _ a _ (wpAny_of_L _ _ _ _ (h hS))
def rfPostA (R : Act → World → Prop) : Exit → Act → World → Prop
  | .normal, a, W' => R a W'
  | .ret, _, _ => False
  | .exit _, _, _ => False
  | .goto _, _, _ => False
  | .panic _, _, _ => False
  | .outgrown, _, _ => False
theorem wpIn_cutR {F : Fence} {n : Nat} {P : Program} {c : Code} {Q : Exit → Act → World → Prop} {a : Act} {w : World} (R : Act → Act → World → Prop) (h : c.wpIn F n P (rfPostA (R a)) a w) (hq : ∀ a' w', R a a' w' → Q .normal a' w') : c.wpIn F n P Q a w := by
  refine wpIn_mono h ?_
  intro e a' w' hh
  cases e with
  | normal => exact hq _ _ hh
  | ret => exact hh.elim
  | exit id => exact hh.elim
  | goto t => exact hh.elim
  | panic ch => exact hh.elim
  | outgrown => exact hh.elim
end Go.Proofs.YtnpceipoakclbaaW.PrintLast

namespace Go.Proofs.Ytnpceipoakclbaa.Q
open Go.RowKit Go.Shelf Go.Proofs.YtnpceipoakclbaaW.PrintWords Go.Proofs.YtnpceipoakclbaaW.PrintLast Go.Proofs.YtnpceipoakclbaaW.PrintMore
set_option linter.unusedVariables false
set_option linter.unusedSimpArgs false
attribute [local go_sem] Oper.semAt_some
structure Pt where
  a : Int
  b : Int
  o : Int
def Pt.enc (p : Pt) : Value := .agg #[.int .i64 p.a, .int .i64 p.b, .int .i64 p.o]
def psteps (tt : Int) : List S75 → Int → Int → List Pt
  | [], fr, of => if fr < tt then [⟨fr, tt, of⟩] else []
  | c :: cs, fr, of => if fr < c.f0 ∧ c.f0 < tt then ⟨fr, c.f0, of⟩ :: psteps tt cs c.f0 c.f1 else psteps tt cs fr (if c.f0 ≤ fr then c.f1 else of)
theorem psteps_cut {tt : Int} {l : List S75} {k : Nat} (hk : k < l.length) (fr of : Int) : psteps tt (l.drop k) fr of =
    if fr < (rd_T75 l k).f0 ∧ (rd_T75 l k).f0 < tt then ⟨fr, (rd_T75 l k).f0, of⟩ :: psteps tt (l.drop (k + 1)) (rd_T75 l k).f0 (rd_T75 l k).f1 else psteps tt (l.drop (k + 1)) fr (if (rd_T75 l k).f0 ≤ fr then (rd_T75 l k).f1 else of) := by
  have e : rd_T75 l (k : Int) = l[k] := by simp [rd_T75, List.getD_eq_getElem?_getD, List.getElem?_eq_getElem hk]
  rw [List.drop_eq_getElem_cons hk, e]
  rfl
set_option maxHeartbeats 1000000 in
theorem parts_calls (nm : ByteArray) (base : Int) (A : Option Addr) (n c : Nat) (fr tt : Int) (w : World) :
    Calls Try.prog 65 #[.agg #[.string nm, .int .i64 base, .slice A n c], .int .i64 fr, .int .i64 tt] w fun e w' =>
      e = .returned (.func (.func 73) #[] #[.pointer (some ⟨w.heap.size, 0, none⟩), .pointer (some ⟨w.heap.size + 1, 0, none⟩), .pointer (some ⟨w.heap.size + 2, 0, none⟩)]) ∧
      w' = ((w.alloc (.cells #[.string nm, .int .i64 base, .slice A n c] 24)).alloc (.cells #[.int .i64 fr] 3)).alloc (.cells #[.int .i64 tt] 3) := by
  go_enter Try.func65, Try.ntmps65
  go_wp2
  go_ret
  exact ⟨rfl, rfl⟩
set_option maxRecDepth 100000 in
set_option maxHeartbeats 2000000 in
theorem parts_iter (nm : ByteArray) (base : Int) (A : Option Addr) (l : List S75) (c : Nat) (fr tt : Int) (w00 w0 : World) (hC : Kd.C k75 w00 A l.length l) (hcl : l.length ≤ c) (hB : Below w00.heap.size w00 w0)
    (zb fb tb : Nat) (hz : w0.heap[zb]? = some (.cells #[.string nm, .int .i64 base, .slice A l.length c] 24 (0, 0))) (hf : Boxed w0 fb 3 (.int .i64 fr)) (ht : Boxed w0 tb 3 (.int .i64 tt)) (hzf : zb ≠ fb) (htf : tb ≠ fb) (hwf : w00.heap.size ≤ fb) (hfl : fb < w0.heap.size) {ty : TypeId} (hty : ty ≠ 75) :
    IterK Try.prog ty 73 #[.pointer (some ⟨zb, 0, none⟩), .pointer (some ⟨fb, 0, none⟩), .pointer (some ⟨tb, 0, none⟩)] (fun p : Pt => #[p.enc]) (psteps tt l fr base) (fun k => k = fb) (fun k => k < w00.heap.size ∨ k = zb ∨ k = fb ∨ k = tb) w0 := by
  intro n ln J Mine W hW hM hJ hY h0
  have hl := hC.2.1
  refine callsIn_of_wp Try.func73 rfl trivial ?_ rfl
  simp only [Try.ntmps73, List.size_toArray, List.length_cons, List.length_nil, Nat.reduceAdd, Nat.reduceSub, Array.replicate_succ, Array.replicate_zero, List.push_toArray, List.append_toArray, List.nil_append, List.cons_append]
  have z1 := blk_cell (hW.get (fun h => h) hz) 1
  have z2 := blk_cell (hW.get (fun h => h) hz) 2
  simp only [List.getElem?_toArray, List.getElem?_cons_zero, List.getElem?_cons_succ] at z1 z2
  gi_wp2
  gi_loopw [5, 13] (fun o i wr => ∃ (k : Nat) (pre : List Pt) (fr1 of1 : Int), i = .int .i64 k ∧ o = .int .i64 of1 ∧ k ≤ l.length ∧ pre ++ psteps tt (l.drop k) fr1 of1 = psteps tt l fr base ∧ J pre wr ∧ Boxed wr fb 3 (.int .i64 fr1) ∧ KB (fun k => Mine k ∨ k = fb) W wr) (fun o i wr => l.length - (intOf i).toNat)
  case atStart => exact ⟨0, [], fr, base, rfl, rfl, Nat.zero_le _, rfl, h0, hW.boxed (fun h => h) hf, KB.refl _ _⟩
  case round =>
    obtain ⟨k, pre, fr1, of1, rfl, rfl, hk, hx, hj, hfb, hkb⟩ := hrel
    have htb : Boxed wr tb 3 (.int .i64 tt) := hkb.boxed (fun h => by rcases h with h | h; exact (hM _ h).2 (.inr (.inr (.inr rfl))); exact htf h) (hW.boxed (fun h => h) ht)
    have cf := hfb.cell
    have ct := htb.cell
    have ff := hfb.frozen
    have hbw : Below w00.heap.size w00 wr := (hB.trans (hW.below hB.size (fun k h => h.elim))).trans (hkb.below (Nat.le_trans hB.size hW.size) (fun k h => by rcases h with h | rfl; exact Nat.not_lt.1 (fun h2 => (hM _ h).2 (.inl h2)); exact hwf))
    have HX := Lib.hid hx
    have HJ := Lib.hid hj
    have HK := Lib.hid hkb
    have HF := Lib.hid hfb
    clear hx hj hkb hfb htb
    by_cases hlt : k < l.length
    · obtain ⟨ad, rfl, g0, g1⟩ := at_T75 (Kd.C_below hC hbw) (k : Int) (by omega) (by omega)
      simp only [Int.toNat_natCast] at g0 g1
      have hbw1 := Lib.hid hbw
      clear hbw
      have hxk := HX.out
      rw [psteps_cut hlt] at hxk
      generalize hx0 : (rd_T75 l k).f0 = x0 at *
      generalize hx1 : (rd_T75 l k).f1 = x1 at *
      have HXK := Lib.hid hxk
      clear hx0 hx1 hxk
      have cf1 := pw_cell_below (below_alloc (Below.refl wr.heap.size wr) (.cells #[.int .i64 x0, .int .i64 x1] 75)) cf
      have ct1 := pw_cell_below (below_alloc (Below.refl wr.heap.size wr) (.cells #[.int .i64 x0, .int .i64 x1] 75)) ct
      have cb := blk_cell (World.alloc_heap_new wr (.cells #[.int .i64 x0, .int .i64 x1] 75))
      have cb0 := cb 0
      have cb1 := cb 1
      simp only [List.getElem?_toArray, List.getElem?_cons_zero, List.getElem?_cons_succ] at cb0 cb1
      clear cb
      have HJ1 := Lib.hid (hJ _ _ _ HJ.out ((KB.refl (fun k => k = fb) wr).alloc (.cells #[.int .i64 x0, .int .i64 x1] 75)))
      have HK1 := Lib.hid (HK.out.alloc (.cells #[.int .i64 x0, .int .i64 x1] 75))
      have HF1 := Lib.hid (HF.out.alloc (.cells #[.int .i64 x0, .int .i64 x1] 75))
      have ff1 := HF1.out.frozen
      have hsz : (wr.alloc (.cells #[.int .i64 x0, .int .i64 x1] 75)).heap.size = wr.heap.size + 1 := World.size_alloc _ _
      by_cases h1 : fr1 < x0
      · by_cases h2 : x0 < tt
        · have hr := HXK.out
          rw [if_pos ⟨h1, h2⟩] at hr
          have HR := Lib.hid hr
          clear hr
          obtain ⟨fn, tmps, assign, body, hy, hR⟩ := hY pre ⟨fr1, x0, of1⟩ _ _ HR.out HJ1.out
          dsimp only [Pt.enc] at hy
          have hm0 : ¬ MineE Mine W.heap.size ty (wr.alloc (.cells #[.int .i64 x0, .int .i64 x1] 75)) wr.heap.size := fun h => by
            rcases h with h | ⟨_, cs, fz, hc⟩
            · have := (hM _ h).1
              have := HK.out.size
              omega
            · rw [World.alloc_heap_new] at hc
              injection hc with hc
              injection hc with _ hc _
              exact hty hc.symm
          have hmf : ¬ MineE Mine W.heap.size ty (wr.alloc (.cells #[.int .i64 x0, .int .i64 x1] 75)) fb := fun h => by
            rcases h with h | ⟨h, _⟩
            · exact (hM _ h).2 (.inr (.inr (.inl rfl)))
            · have := hW.size
              omega
          have hmt : True := trivial
          have HM0 := Lib.hid hm0
          have HMF := Lib.hid hmf
          have HMT := Lib.hid hmt
          clear hm0 hmf hmt
          gi_wp2
          refine ⟨fun h => (by cases h), hR.mono ?_⟩
          rintro e W3 ⟨rfl, hJ3, hk3⟩
          have HK3 := Lib.hid hk3
          have HJ3 := Lib.hid hJ3
          have d0 := hk3.cell (a := ⟨wr.heap.size, 0, none⟩) HM0.out cb0
          have d1 := hk3.cell (a := ⟨wr.heap.size, 1, none⟩) HM0.out cb1
          have HF3 := Lib.hid (hk3.boxed HMF.out HF1.out)
          have df := HF3.out.cell
          have dff := HF3.out.frozen
          clear hk3 hJ3 cf1 ct1 cb0 cb1 ff1 hy hR cf ct ff
          have hne : wr.heap.size ≠ fb := fun e => by have h3 := HF.out.lt; omega
          have hkm : KB (fun k => Mine k ∨ k = fb) W W3 := HK1.out.trans' HK3.out (fun i h hi => by rcases h with h | ⟨h, _⟩; exact .inl h; omega)
          have HKM := Lib.hid hkm
          clear hkm
          have ef := World.cell?_setCell_same' W3 ⟨fb, 0, none⟩ (.int .i64 x0) (by rw [df]; rfl)
          have e0 : (W3.setCell ⟨fb, 0, none⟩ (.int .i64 x0)).cell? ⟨wr.heap.size, 0, none⟩ = some (.int .i64 x0) := (World.cell?_of_block (w := W3) (Below.heap_setCell _ _ _ _ hne)).trans d0
          have e1 : (W3.setCell ⟨fb, 0, none⟩ (.int .i64 x0)).cell? ⟨wr.heap.size, 1, none⟩ = some (.int .i64 x1) := (World.cell?_of_block (w := W3) (Below.heap_setCell _ _ _ _ hne)).trans d1
          gi_wp2
          refine ⟨⟨k + 1, pre ++ [⟨fr1, x0, of1⟩], x0, x1, by go_num, rfl, by omega, by rw [List.append_assoc]; exact HR.out, hJ _ _ _ HJ3.out ((KB.refl (fun k => k = fb) _).setCell (.inl rfl) _), HF3.out.set _, ?_⟩, by simp [intOf]; omega⟩
          exact HKM.out.setCell (.inl (.inr rfl)) _
        · have hr := HXK.out
          rw [if_neg (by omega), if_neg (by omega)] at hr
          have HR := Lib.hid hr
          clear hr
          gi_wp2
          exact ⟨⟨k + 1, pre, fr1, of1, by go_num, rfl, by omega, HR.out, HJ1.out, HF1.out, HK1.out⟩, by simp [intOf]; omega⟩
      · have h1' : x0 ≤ fr1 := by omega
        have hr := HXK.out
        rw [if_neg (by omega), if_pos (by omega)] at hr
        have HR := Lib.hid hr
        clear hr
        gi_wp2
        exact ⟨⟨k + 1, pre, fr1, x1, by go_num, rfl, by omega, HR.out, HJ1.out, HF1.out, HK1.out⟩, by simp [intOf]; omega⟩
    · have hke : k = l.length := by omega
      subst hke
      have hr := HX.out
      rw [List.drop_length] at hr
      simp only [psteps] at hr
      by_cases h3 : fr1 < tt
      · rw [if_pos h3] at hr
        have HR := Lib.hid hr
        clear hr
        obtain ⟨fn, tmps, assign, body, hy, hR⟩ := hY pre ⟨fr1, tt, of1⟩ [] _ HR.out HJ.out
        dsimp only [Pt.enc] at hy
        gi_wp2
        refine ⟨fun h => (by cases h), hR.mono ?_⟩
        rintro e W3 ⟨rfl, hJ3, hk3⟩
        have HJ3 := Lib.hid hJ3
        clear hJ3 hk3
        gi_wp2
        go_end0
        exact ⟨⟨_, rfl⟩, HR.out ▸ HJ3.out⟩
      · rw [if_neg h3, List.append_nil] at hr
        have HR := Lib.hid hr
        clear hr
        gi_wp2
        go_end0
        exact ⟨⟨_, rfl⟩, HR.out ▸ HJ.out⟩
theorem parts_seq {ty : TypeId} (hty : ty ≠ 75) {nm : ByteArray} {base : Int} {A : Option Addr} {l : List S75} {c : Nat} {fr tt : Int} {w V : World} (hC : Kd.C k75 w A l.length l) (hcl : l.length ≤ c) (hB : Below w.heap.size w V) :
    IterK Try.prog ty 73 #[.pointer (some ⟨V.heap.size, 0, none⟩), .pointer (some ⟨V.heap.size + 1, 0, none⟩), .pointer (some ⟨V.heap.size + 2, 0, none⟩)] (fun p : Pt => #[p.enc]) (psteps tt l fr base) (fun k => k = V.heap.size + 1) (fun k => k < w.heap.size ∨ k = V.heap.size ∨ k = V.heap.size + 1 ∨ k = V.heap.size + 2)
      (((V.alloc (.cells #[.string nm, .int .i64 base, .slice A l.length c] 24)).alloc (.cells #[.int .i64 fr] 3)).alloc (.cells #[.int .i64 tt] 3)) := by
  have h1 := World.alloc_heap_new V (.cells #[.string nm, .int .i64 base, .slice A l.length c] 24)
  have h2 := World.alloc_heap_new (V.alloc (.cells #[.string nm, .int .i64 base, .slice A l.length c] 24)) (.cells #[.int .i64 fr] 3)
  have h3 := World.alloc_heap_new ((V.alloc (.cells #[.string nm, .int .i64 base, .slice A l.length c] 24)).alloc (.cells #[.int .i64 fr] 3)) (.cells #[.int .i64 tt] 3)
  simp only [World.size_alloc, Nat.add_assoc, Nat.reduceAdd] at h2 h3
  have hs := hB.size
  exact parts_iter nm base A l c fr tt w _ hC hcl (((hB.alloc hs _).alloc (by simp; omega) _).alloc (by simp; omega) _) _ _ _ (blk_alloc (blk_alloc h1 _) _) (blk_alloc h2 _) h3 (by omega) (by omega) (by omega) (by simp) hty
theorem zone_loopE {ty : TypeId} (hty : ty ≠ 75) {g : Operand} {ps : Array Tmp} {assign body : Code} {Q : Exit → Act → World → Prop} {a : Act} {w V : World} {n : Nat} {nm : ByteArray} {base : Int} {A : Option Addr} {l : List S75} {c : Nat} {fr tt : Int}
    (hC : Kd.C k75 w A l.length l) (hcl : l.length ≤ c) (hB : Below w.heap.size w V)
    (hg : a.eval g = .func (.func 73) #[] #[.pointer (some ⟨V.heap.size, 0, none⟩), .pointer (some ⟨V.heap.size + 1, 0, none⟩), .pointer (some ⟨V.heap.size + 2, 0, none⟩)]) (hps : ps.size = 1)
    (Mine : Nat → Prop) (hM : ∀ k, Mine k → w.heap.size ≤ k ∧ k < V.heap.size)
    (I : List Pt → World → Prop) (hI : ∀ pre W W', I pre W → KB (fun k => V.heap.size ≤ k ∧ k < V.heap.size + 5) W W' → I pre W') (h0 : I [] V)
    (hround : ∀ ln pre x rest W, pre ++ x :: rest = psteps tt l fr base → ln = V.heap.size + 4 → ln < W.heap.size → I pre W →
      assign.wpIn (Fence.wide.inRound ln) (n - 1 - 1) Try.prog (Exit.then (fun a₁ W₁ => KB NoB W W₁ ∧ ∀ W₂, W₂.heap.size = W₁.heap.size → KB (fun k => k = ln) W₁ W₂ →
        body.wpIn (Fence.wide.inRound ln) (n - 1 - 1) Try.prog (rfPost fun W' => KB (MineE Mine (V.heap.size + 5) ty W₂) W₂ W' ∧ I (pre ++ [x]) W') a₁ W₂) (fun _ _ _ => False))
        { tmps := (ps.zip #[.agg #[.int .i64 x.a, .int .i64 x.b, .int .i64 x.o]]).foldl (fun t (p, v) => t.setIfInBounds p v) a.tmps, defers := [] } W)
    (hdone : ∀ W, KB Mine V W → V.heap.size + 3 < W.heap.size → I (psteps tt l fr base) W → W.heap[V.heap.size + 3]? = some (.deferred (some [])) → Q .normal { a with defers := { target := .collected (V.heap.size + 3), args := #[] } :: a.defers } W) :
    (Code.rangeFunc g ps assign body).wpIn Fence.wide n Try.prog Q a (((V.alloc (.cells #[.string nm, .int .i64 base, .slice A l.length c] 24)).alloc (.cells #[.int .i64 fr] 3)).alloc (.cells #[.int .i64 tt] 3)) := by
  have hs : (((V.alloc (.cells #[.string nm, .int .i64 base, .slice A l.length c] 24)).alloc (.cells #[.int .i64 fr] 3)).alloc (.cells #[.int .i64 tt] 3)).heap.size = V.heap.size + 3 := by simp
  have hseq := parts_seq hty (nm := nm) (base := base) (fr := fr) (tt := tt) hC hcl hB
  have hk : KB NoB V (((V.alloc (.cells #[.string nm, .int .i64 base, .slice A l.length c] 24)).alloc (.cells #[.int .i64 fr] 3)).alloc (.cells #[.int .i64 tt] 3)) := (((KB.refl _ _).alloc _).alloc _).alloc _
  generalize (((V.alloc (.cells #[.string nm, .int .i64 base, .slice A l.length c] 24)).alloc (.cells #[.int .i64 fr] 3)).alloc (.cells #[.int .i64 tt] 3)) = V3 at *
  have eg := enters_of Try.func73 (by kernel_rfl) rfl
  have hsB := hB.size
  refine rf_law (gf := 73) hg eg hseq (fun _ => by rw [hps]; rfl) (fun k h => by omega) (fun k h => by omega) Mine (fun k h => by have := hM k h; exact ⟨by omega, by omega⟩) I ?_ ?_ ?_ ?_
  · intro pre W W' hi hkb
    exact hI pre W W' hi (hkb.mono (fun i h _ => by omega))
  · exact hI _ _ _ h0 (hk.mono (fun _ h _ => h.elim))
  · intro ln pre x rest W hx hln hlt _ hi
    have hr := hround ln pre x rest W hx (by omega) hlt hi
    rw [hs]
    exact hr
  · intro D W hD hkb hi hd
    have e : D = V.heap.size + 3 := by omega
    rw [e] at hd ⊢
    refine hdone W ((hk.mono (fun _ h _ => h.elim)).trans' (hkb.mono (T := fun k => Mine k ∨ k = V.heap.size + 1) (fun i h _ => h)) (fun i h hi => by rcases h with h | h; exact h; omega)) (by have := (Array.getElem?_eq_some_iff.1 hd).1; exact this) hi hd
theorem zone_loop {g : Operand} {ps : Array Tmp} {assign body : Code} {Q : Exit → Act → World → Prop} {a : Act} {w V : World} {n : Nat} {nm : ByteArray} {base : Int} {A : Option Addr} {l : List S75} {c : Nat} {fr tt : Int}
    (hC : Kd.C k75 w A l.length l) (hcl : l.length ≤ c) (hB : Below w.heap.size w V)
    (hg : a.eval g = .func (.func 73) #[] #[.pointer (some ⟨V.heap.size, 0, none⟩), .pointer (some ⟨V.heap.size + 1, 0, none⟩), .pointer (some ⟨V.heap.size + 2, 0, none⟩)]) (hps : ps.size = 1)
    (Mine : Nat → Prop) (hM : ∀ k, Mine k → w.heap.size ≤ k ∧ k < V.heap.size)
    (I : List Pt → World → Prop) (hI : ∀ pre W W', I pre W → KB (fun k => V.heap.size ≤ k ∧ k < V.heap.size + 5) W W' → I pre W') (h0 : I [] V)
    (hround : ∀ ln pre x rest W, pre ++ x :: rest = psteps tt l fr base → ln = V.heap.size + 4 → ln < W.heap.size → I pre W →
      assign.wpIn (Fence.wide.inRound ln) (n - 1 - 1) Try.prog (Exit.then (fun a₁ W₁ => KB NoB W W₁ ∧ ∀ W₂, W₂.heap.size = W₁.heap.size → KB (fun k => k = ln) W₁ W₂ →
        body.wpIn (Fence.wide.inRound ln) (n - 1 - 1) Try.prog (rfPost fun W' => KB Mine W₂ W' ∧ I (pre ++ [x]) W') a₁ W₂) (fun _ _ _ => False))
        { tmps := (ps.zip #[.agg #[.int .i64 x.a, .int .i64 x.b, .int .i64 x.o]]).foldl (fun t (p, v) => t.setIfInBounds p v) a.tmps, defers := [] } W)
    (hdone : ∀ W, KB Mine V W → V.heap.size + 3 < W.heap.size → I (psteps tt l fr base) W → W.heap[V.heap.size + 3]? = some (.deferred (some [])) → Q .normal { a with defers := { target := .collected (V.heap.size + 3), args := #[] } :: a.defers } W) :
    (Code.rangeFunc g ps assign body).wpIn Fence.wide n Try.prog Q a (((V.alloc (.cells #[.string nm, .int .i64 base, .slice A l.length c] 24)).alloc (.cells #[.int .i64 fr] 3)).alloc (.cells #[.int .i64 tt] 3)) := by
  refine zone_loopE (ty := 3) (by decide) hC hcl hB hg hps Mine hM I hI h0 ?_ hdone
  intro ln pre x rest W hx hln hlt hi
  refine wpIn_mono (hround ln pre x rest W hx hln hlt hi) ?_
  intro e a₁ W₁ h
  cases e with
  | normal =>
    refine ⟨h.1, fun W₂ hs hk => wpIn_mono (h.2 W₂ hs hk) ?_⟩
    intro e a₂ W₃ h
    cases e with
    | normal => exact ⟨h.1.mono (fun _ h _ => .inl h), h.2⟩
    | _ => exact h
  | _ => exact h
end Go.Proofs.Ytnpceipoakclbaa.Q
