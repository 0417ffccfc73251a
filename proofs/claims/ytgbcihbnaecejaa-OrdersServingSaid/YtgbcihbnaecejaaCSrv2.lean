/- For any list, ranks do not decrease in the result, and numbers increase within a rank; every argument of these types
   The walk of the law's code and its plain law (merged by wip/tools/trim.py out of own texts and of texts that the kit's printer wrote). -/
import Derived.Test.YtgbcihbnaecejaaCSrv1
import Derived.Test.YtgbcihbnaecejaaProg
import Derived.Below
import Derived.Deep.Draws
import Derived.Deep.AppendLies
import Derived.Maps.AppendAt
import Derived.OwnWalk
import Derived.Laws.BytesArg
import Derived.Laws.MakeOwn
import Derived.Laws.OwnMore
import Derived.Deep.OwnRows
import Derived.Tactics
import Derived.Lib.ConvBytes
import Derived.Laws.Slices
import Derived.WalkKit
import Derived.KernelRfl
import Derived.RowKit3
import Derived.Deep.LoopGhost
import Derived.Deep.QuietTactic
import Derived.BigQuiet
import Derived.WideLaws
import Derived.Deep.DeepCutAuto
import Derived.Deep.CutBlock
import Derived.Deep.RegionHeld3
import Derived.Laws.Rows
import Derived.Lib.AppendStr
import Derived.ArgAppend
import Derived.Laws.IdiomCopy
import Derived.OrdersHeld
import Derived.Laws.BitsLemmas
import Derived.RowKit
import Derived.Shelf.GgClosure.StringsIndexFunc
import Derived.Laws.RangeAny
import Derived.Shelf.GgClosure.StringsIndexFuncTop
import Derived.Ground.GgwProg
import Derived.Lib.Hide
import Derived.Outline
import Derived.Deep.Slices
import Derived.ChangeArms
import Derived.WideShapes
import Derived.OpenShut
import Derived.RangeFuncNested
import Derived.RangeFuncBox
import Derived.RangeFuncCalls
import Derived.RangeFuncLeaves
import Derived.TacticsIn
import Derived.Maps.RangeWalk
import Derived.StringKeys
import Derived.IntWalk
import Derived.Deep.RegionWith
import Derived.Sort.OwnSorted
import Derived.Shelf.SlSortCmp.NoneTotal
import Derived.Ground.SlsfProg
import Derived.Shelf.SlSortCmp.WholeK
import Derived.WalkSpells
import Derived.Shelf.SlicesQ.IndexFunc
import Derived.Ground.SlgfProg
namespace Go.Proofs.Ytgbcihbnaecejaa.Q
open Go.RowKit Go.Proofs.YtgbcihbnaecejaaW.PrintWords Go.Proofs.YtgbcihbnaecejaaW.PrintLast Go.Proofs.YtgbcihbnaecejaaW.PrintMore
attribute [local go_sem] max2_int min2_int max_two min_two max_three min_three max_four min_four   -- for this text's walks alone
set_option linter.unusedVariables false
set_option linter.unusedSimpArgs false
def errW : Option Int → Value
  | none => .nilIface
  | some c => .iface 0 (.int .i64 c)
theorem errW_none : errW none = .nilIface := rfl
theorem errW_some (c : Int) : errW (some c) = .iface 0 (.int .i64 c) := rfl
theorem info24 : (Try.prog.info? 24).map (fun i => (i.zero, i.size, i.bytes)) = some (some (.agg #[(.int .i64 0), (.string ⟨#[]⟩), (.string ⟨#[]⟩), (.int .i64 0), (.int .i64 0), (.int .i64 0), (.int .i64 0), (.bool false)]), 8, 80) := by kernel_rfl
structure S24 where
  f0 : Int
  f1 : ByteArray
  f2 : ByteArray
  f3 : Int
  f4 : Int
  f5 : Int
  f6 : Int
  f7 : Bool
def z24 : S24 := ⟨(0 : Int), (⟨#[]⟩ : ByteArray), (⟨#[]⟩ : ByteArray), (0 : Int), (0 : Int), (0 : Int), (0 : Int), false⟩
def k24 : Kd S24 := Kd.iso (Kd.pair (Kd.int .i64) (Kd.pair Kd.string (Kd.pair Kd.string (Kd.pair (Kd.int .i64) (Kd.pair (Kd.int .i64) (Kd.pair (Kd.int .i64) (Kd.pair (Kd.int .i64) Kd.bool))))))) (fun x : S24 => (x.f0, x.f1, x.f2, x.f3, x.f4, x.f5, x.f6, x.f7))
theorem k24_open {w : World} {x : S24} {cs : List Value} (h : k24.K w x cs) : cs = [.int .i64 x.f0, .string x.f1, .string x.f2, .int .i64 x.f3, .int .i64 x.f4, .int .i64 x.f5, .int .i64 x.f6, .bool x.f7] := by
  obtain ⟨_, _, rfl, rfl, ⟨_, _, rfl, rfl, ⟨_, _, rfl, rfl, ⟨_, _, rfl, rfl, ⟨_, _, rfl, rfl, ⟨_, _, rfl, rfl, ⟨_, _, rfl, rfl, rfl⟩⟩⟩⟩⟩⟩⟩ := h
  exact rfl
theorem k24_openM {w : World} {base : Nat} {ok : Nat → Prop} {x : S24} {cs : List Value} (h : k24.M w base ok x cs) : cs = [.int .i64 x.f0, .string x.f1, .string x.f2, .int .i64 x.f3, .int .i64 x.f4, .int .i64 x.f5, .int .i64 x.f6, .bool x.f7] := by
  obtain ⟨_, _, rfl, rfl, ⟨_, _, rfl, rfl, ⟨_, _, rfl, rfl, ⟨_, _, rfl, rfl, ⟨_, _, rfl, rfl, ⟨_, _, rfl, rfl, ⟨_, _, rfl, rfl, rfl⟩⟩⟩⟩⟩⟩⟩ := h
  exact rfl
theorem k24_mk (w : World) (x : S24)  : k24.K w x [.int .i64 x.f0, .string x.f1, .string x.f2, .int .i64 x.f3, .int .i64 x.f4, .int .i64 x.f5, .int .i64 x.f6, .bool x.f7] := ⟨[.int .i64 x.f0], [.string x.f1, .string x.f2, .int .i64 x.f3, .int .i64 x.f4, .int .i64 x.f5, .int .i64 x.f6, .bool x.f7], rfl, rfl, ⟨[.string x.f1], [.string x.f2, .int .i64 x.f3, .int .i64 x.f4, .int .i64 x.f5, .int .i64 x.f6, .bool x.f7], rfl, rfl, ⟨[.string x.f2], [.int .i64 x.f3, .int .i64 x.f4, .int .i64 x.f5, .int .i64 x.f6, .bool x.f7], rfl, rfl, ⟨[.int .i64 x.f3], [.int .i64 x.f4, .int .i64 x.f5, .int .i64 x.f6, .bool x.f7], rfl, rfl, ⟨[.int .i64 x.f4], [.int .i64 x.f5, .int .i64 x.f6, .bool x.f7], rfl, rfl, ⟨[.int .i64 x.f5], [.int .i64 x.f6, .bool x.f7], rfl, rfl, ⟨[.int .i64 x.f6], [.bool x.f7], rfl, rfl, rfl⟩⟩⟩⟩⟩⟩⟩
theorem k24_mkM (w : World) (base : Nat) (ok : Nat → Prop) (x : S24)  : k24.M w base ok x [.int .i64 x.f0, .string x.f1, .string x.f2, .int .i64 x.f3, .int .i64 x.f4, .int .i64 x.f5, .int .i64 x.f6, .bool x.f7] := ⟨[.int .i64 x.f0], [.string x.f1, .string x.f2, .int .i64 x.f3, .int .i64 x.f4, .int .i64 x.f5, .int .i64 x.f6, .bool x.f7], rfl, rfl, ⟨[.string x.f1], [.string x.f2, .int .i64 x.f3, .int .i64 x.f4, .int .i64 x.f5, .int .i64 x.f6, .bool x.f7], rfl, rfl, ⟨[.string x.f2], [.int .i64 x.f3, .int .i64 x.f4, .int .i64 x.f5, .int .i64 x.f6, .bool x.f7], rfl, rfl, ⟨[.int .i64 x.f3], [.int .i64 x.f4, .int .i64 x.f5, .int .i64 x.f6, .bool x.f7], rfl, rfl, ⟨[.int .i64 x.f4], [.int .i64 x.f5, .int .i64 x.f6, .bool x.f7], rfl, rfl, ⟨[.int .i64 x.f5], [.int .i64 x.f6, .bool x.f7], rfl, rfl, ⟨[.int .i64 x.f6], [.bool x.f7], rfl, rfl, rfl⟩⟩⟩⟩⟩⟩⟩
def rd_T24 (xs : List S24) (i : Int) : S24 := xs.getD i.toNat z24
theorem at_T24 {w : World} {A : Option Addr} {n : Nat} {xs : List S24} (h : Kd.C k24 w A n xs) (i : Int) (h0 : 0 ≤ i) (h1 : i < n) : ∃ ad , A = some ad ∧ w.cell? (ad.add (i.toNat * 8)) = some (.int .i64 (rd_T24 xs i).f0) ∧ w.cell? ⟨(ad.add (i.toNat * 8)).block, (ad.add (i.toNat * 8)).off + 1, none⟩ = some (.string (rd_T24 xs i).f1) ∧ w.cell? ⟨(ad.add (i.toNat * 8)).block, (ad.add (i.toNat * 8)).off + 2, none⟩ = some (.string (rd_T24 xs i).f2) ∧ w.cell? ⟨(ad.add (i.toNat * 8)).block, (ad.add (i.toNat * 8)).off + 3, none⟩ = some (.int .i64 (rd_T24 xs i).f3) ∧ w.cell? ⟨(ad.add (i.toNat * 8)).block, (ad.add (i.toNat * 8)).off + 4, none⟩ = some (.int .i64 (rd_T24 xs i).f4) ∧ w.cell? ⟨(ad.add (i.toNat * 8)).block, (ad.add (i.toNat * 8)).off + 5, none⟩ = some (.int .i64 (rd_T24 xs i).f5) ∧ w.cell? ⟨(ad.add (i.toNat * 8)).block, (ad.add (i.toNat * 8)).off + 6, none⟩ = some (.int .i64 (rd_T24 xs i).f6) ∧ w.cell? ⟨(ad.add (i.toNat * 8)).block, (ad.add (i.toNat * 8)).off + 7, none⟩ = some (.bool (rd_T24 xs i).f7) := by
  obtain ⟨ad, c, e, _, hK, hc0⟩ := Kd.C_get h z24 i h0 h1
  have hc : ∀ j u, c[j]? = some u → w.cell? (ad.add (i.toNat * 8 + j)) = some u := hc0
  obtain rfl := k24_open hK
  exact ⟨ad, e, hc 0 _ rfl, by rw [← add_field _ _ 1 (by omega)]; exact hc 1 _ rfl, by rw [← add_field _ _ 2 (by omega)]; exact hc 2 _ rfl, by rw [← add_field _ _ 3 (by omega)]; exact hc 3 _ rfl, by rw [← add_field _ _ 4 (by omega)]; exact hc 4 _ rfl, by rw [← add_field _ _ 5 (by omega)]; exact hc 5 _ rfl, by rw [← add_field _ _ 6 (by omega)]; exact hc 6 _ rfl, by rw [← add_field _ _ 7 (by omega)]; exact hc 7 _ rfl⟩
end Go.Proofs.Ytgbcihbnaecejaa.Q

namespace Go.Proofs.Ytgbcihbnaecejaa.Q
open Go
def nbad (c : Nat) : Bool := decide (c ≠ 95) && (decide (c < 48) || decide (57 < c)) && (decide (c < 97) || decide (122 < c))
theorem nbad_high {c : Nat} (h : 128 ≤ c) : nbad c = true := by
  unfold nbad
  simp only [Bool.and_eq_true, Bool.or_eq_true, decide_eq_true_eq]
  omega
theorem idx_bytes (s : ByteArray) : ∀ f pos, s.size ≤ pos + f → (0 ≤ Lib.idxFuncFrom nbad true s f pos ↔ ∃ i, ∃ h : i < s.size, pos ≤ i ∧ nbad (s[i]'h).toNat = true) := by
  intro f
  induction f with
  | zero =>
    intro pos hp
    unfold Lib.idxFuncFrom
    exact ⟨fun h => by omega, fun ⟨i, h, h1, _⟩ => by omega⟩
  | succ f ih =>
    intro pos hp
    unfold Lib.idxFuncFrom
    by_cases h : pos < s.size
    · rw [if_pos h]
      by_cases ha : (s[pos]'h).toNat < 128
      · rw [decode_ascii s pos h ha]
        by_cases hb : nbad (s[pos]'h).toNat = true
        · rw [if_pos hb]
          exact ⟨fun _ => ⟨pos, h, Nat.le_refl _, hb⟩, fun _ => by omega⟩
        · rw [if_neg hb, ih (pos + 1) (by omega)]
          constructor
          · rintro ⟨i, h1, h2, h3⟩
            exact ⟨i, h1, by omega, h3⟩
          · rintro ⟨i, h1, h2, h3⟩
            refine ⟨i, h1, ?_, h3⟩
            rcases Nat.eq_or_lt_of_le h2 with e | e
            · subst e
              exact absurd h3 hb
            · omega
      · have hd := decode_high s pos h (by omega)
        rw [if_pos (nbad_high hd.1)]
        exact ⟨fun _ => ⟨pos, h, Nat.le_refl _, nbad_high (by omega)⟩, fun _ => by omega⟩
    · rw [if_neg h]
      exact ⟨fun h => by omega, fun ⟨i, h', h1, _⟩ => by omega⟩
def nameOk (s : ByteArray) : Bool := decide (∃ h : 0 < s.size, s.size ≤ 16 ∧ 97 ≤ (s[0]'h).toNat ∧ (s[0]'h).toNat ≤ 122) && !decide (0 ≤ Lib.idxFunc nbad true s)
theorem nameOk_iff (s : ByteArray) : nameOk s = true ↔ (∃ h : 0 < s.size, s.size ≤ 16 ∧ 97 ≤ (s[0]'h).toNat ∧ (s[0]'h).toNat ≤ 122) ∧ ∀ i, ∀ h : i < s.size, nbad (s[i]'h).toNat = false := by
  unfold nameOk Lib.idxFunc
  rw [Bool.and_eq_true, decide_eq_true_eq, Bool.not_eq_true', decide_eq_false_iff_not, idx_bytes s s.size 0 (by omega)]
  refine and_congr Iff.rfl ⟨fun h i hi => ?_, fun h ⟨i, hi, _, h1⟩ => ?_⟩
  · cases hb : nbad (s[i]'hi).toNat with
    | false => rfl
    | true => exact absurd ⟨i, hi, Nat.zero_le _, hb⟩ h
  · rw [h i hi] at h1
    cases h1
end Go.Proofs.Ytgbcihbnaecejaa.Q

namespace Go.Proofs
open Go.Shelf
def Try.l17_ren : Go.Shelf.Ren := ⟨fun | 17 => 38 | 15 => 50 | 20 => 56 | n => n, fun | 9 => 9 | 23 => 65 | 4 => 4 | 3 => 3 | 0 => 0 | 21 => 21 | n => n, fun | n => n⟩
theorem Try.l17 : Go.Proofs.LaysGw.n17 Try.prog Try.l17_ren := {
  mixed := by kernel_rfl
  f15 := Try.func50.trans (congrArg some (by kernel_rfl))
  f17 := Try.func38.trans (congrArg some (by kernel_rfl))
  f20 := Try.func56.trans (congrArg some (by kernel_rfl))
  t0 := Try.underlying0
  a0 := Try.isAgg0
  z0 := Try.sizeOf0
  v0 := Try.zeroValue0
  i0 := by kernel_rfl
  t3 := Try.underlying3
  a3 := Try.isAgg3
  z3 := Try.sizeOf3
  v3 := Try.zeroValue3
  i3 := by kernel_rfl
  t4 := Try.underlying4
  a4 := Try.isAgg4
  z4 := Try.sizeOf4
  v4 := Try.zeroValue4
  i4 := by kernel_rfl
  t9 := Try.underlying9
  a9 := Try.isAgg9
  z9 := Try.sizeOf9
  v9 := Try.zeroValue9
  i9 := by kernel_rfl
  t21 := Try.underlying21
  a21 := Try.isAgg21
  z21 := Try.sizeOf21
  v21 := Try.zeroValue21
  i21 := by kernel_rfl
  t23 := Try.underlying65
  a23 := Try.isAgg65
  z23 := Try.sizeOf65
  v23 := Try.zeroValue65
  i23 := by kernel_rfl }
end Go.Proofs

namespace Go.Proofs.Ytgbcihbnaecejaa.Q
open Go Go.RowKit Go.Shelf Go.Lib Go.Proofs.YtgbcihbnaecejaaW.PrintWords Go.Proofs.YtgbcihbnaecejaaW.PrintLast Go.Proofs.YtgbcihbnaecejaaW.PrintMore
set_option linter.unusedVariables false
set_option linter.unusedSimpArgs false
theorem namePred (w : World) : PredAt Try.prog 39 #[] encR nbad w := fun W r _ => by
  unfold FnGives
  by_cases h0 : r = 95
  · subst h0
    go_enter Try.func39, Try.ntmps39
    go_wp2
    go_ret
    exact ⟨rfl, 0, rfl⟩
  · have z0 : ((r : Int) == 95) = false := by simp; omega
    have z0' : ((r : Int) != 95) = true := by simp; omega
    by_cases h1 : r < 48 <;> by_cases h2 : 57 < r <;> by_cases h3 : r < 97 <;> by_cases h4 : 122 < r
    all_goals
      have z1 : (r : Int) < 48 ↔ r < 48 := by omega
      have z2 : (57 : Int) < (r : Int) ↔ 57 < r := by omega
      have z3 : (r : Int) < 97 ↔ r < 97 := by omega
      have z4 : (122 : Int) < (r : Int) ↔ 122 < r := by omega
      have R : Hid (nbad r = ((decide (r < 48) || decide (57 < r)) && (decide (r < 97) || decide (122 < r)))) := Lib.hid (by unfold nbad; rw [decide_eq_true (show r ≠ 95 from h0), Bool.true_and])
      first
      | (exfalso; omega)
      | (go_enter Try.func39, Try.ntmps39
         go_wp2
         all_goals first | (exfalso; omega) | (go_ret; exact ⟨by rw [R.out]; simp [h1, h2, h3, h4], 0, rfl⟩))
theorem str_len (s : ByteArray) : s.toList.length = s.size := by rw [Lib.toList_data]; simp
theorem str_nil : (⟨#[]⟩ : ByteArray).toList = [] := List.eq_nil_of_length_eq_zero (by rw [str_len]; rfl)
theorem str_empty {s : ByteArray} (h : s.size = 0) : s = ⟨#[]⟩ := by
  cases s with | mk d => cases d with | mk l => cases l with | nil => rfl | cons x l => simp [ByteArray.size] at h
theorem ret_false {a b r : Bool} (h : a = r) (k : a = b) : Ending.returned (.bool b) = .returned (.bool r) := by rw [← h, k]
def orders_name.f (a0 : ByteArray) : Option (Bool) := some (nameOk a0)
theorem nameOk_no {s : ByteArray} (h : ∀ h : 0 < s.size, s.size ≤ 16 → 97 ≤ (s[0]'h).toNat → (s[0]'h).toNat ≤ 122 → False) : nameOk s = false := by
  unfold nameOk
  rw [Bool.and_eq_false_iff]
  exact .inl (decide_eq_false fun ⟨h0, h1, h2, h3⟩ => h h0 h1 h2 h3)
theorem nameOk_yes {s : ByteArray} (h0 : 0 < s.size) (h1 : s.size ≤ 16) (h2 : 97 ≤ (s[0]'h0).toNat) (h3 : (s[0]'h0).toNat ≤ 122) : nameOk s = !decide (0 ≤ Lib.idxFunc nbad true s) := by
  unfold nameOk
  rw [decide_eq_true ⟨h0, h1, h2, h3⟩, Bool.true_and]
set_option maxHeartbeats 1000000 in
theorem orders_name.calls (a0 : ByteArray) (r : Bool) (w : World) (h : orders_name.f a0 = some r) :
    Calls Try.prog 31 #[.string a0] w fun e w' => e = .returned (.bool r) ∧ Below w.heap.size w w' := by
  injection h with h
  have H := Lib.hid h
  clear h
  have hC := fun (W : World) => Any.strings_ContainsFunc Try.l17 39 #[] (enters_of Try.func39 (by kernel_rfl) rfl) _ a0 W (namePred W)
  change ∀ W, Calls Try.prog 38 _ _ _ at hC
  by_cases h0 : a0.size = 0
  · have e1 : a0.toList = [] := by
      rw [str_empty h0]; exact str_nil
    have e2 : (!a0.toList.isEmpty) = false := by rw [e1]; rfl
    have R := Lib.hid (nameOk_no (s := a0) fun h => by omega)
    clear hC
    go_enter Try.func31, Try.ntmps31
    go_wp2
    go_ret
    exact ⟨ret_false H.out R.out, Below.refl _ _⟩
  · have hp : 0 < a0.size := by omega
    have e1 : a0.toList.isEmpty = false := by
      rw [List.isEmpty_eq_false_iff]
      intro e
      have := congrArg List.length e
      rw [str_len] at this
      exact h0 (by simpa using this)
    by_cases h1 : a0.size ≤ 16
    · by_cases h2 : 97 ≤ (a0[0]'hp).toNat
      · by_cases h3 : (a0[0]'hp).toNat ≤ 122
        · have R := Lib.hid (nameOk_yes hp h1 h2 h3)
          have z2 : (97 : Int) ≤ ((a0[0]'hp).toNat : Int) := by omega
          have z3 : ((a0[0]'hp).toNat : Int) ≤ 122 := by omega
          go_enter Try.func31, Try.ntmps31
          go_wp2_with (go_at_call 38; refine (hC _).mono ?_; rintro e w' ⟨rfl, hb⟩)
          go_ret
          exact ⟨ret_false H.out R.out, hb⟩
        · have R := Lib.hid (nameOk_no (s := a0) fun _ _ _ h => h3 h)
          have z2 : (97 : Int) ≤ ((a0[0]'hp).toNat : Int) := by omega
          have z3 : ¬ ((a0[0]'hp).toNat : Int) ≤ 122 := by omega
          clear hC
          go_enter Try.func31, Try.ntmps31
          go_wp2
          go_ret
          exact ⟨ret_false H.out R.out, Below.refl _ _⟩
      · have R := Lib.hid (nameOk_no (s := a0) fun _ _ h _ => h2 h)
        have z2 : ¬ (97 : Int) ≤ ((a0[0]'hp).toNat : Int) := by omega
        clear hC
        go_enter Try.func31, Try.ntmps31
        go_wp2
        go_ret
        exact ⟨ret_false H.out R.out, Below.refl _ _⟩
    · have R := Lib.hid (nameOk_no (s := a0) fun _ h _ _ => h1 h)
      clear hC
      go_enter Try.func31, Try.ntmps31
      go_wp2
      go_ret
      exact ⟨ret_false H.out R.out, Below.refl _ _⟩
end Go.Proofs.Ytgbcihbnaecejaa.Q

namespace Go.Proofs.Ytgbcihbnaecejaa.Q
open Go.RowKit Go.Proofs.YtgbcihbnaecejaaW.PrintWords Go.Proofs.YtgbcihbnaecejaaW.PrintLast Go.Proofs.YtgbcihbnaecejaaW.PrintMore
attribute [local go_sem] max2_int min2_int max_two min_two max_three min_three max_four min_four   -- for this text's walks alone
set_option linter.unusedVariables false
set_option linter.unusedSimpArgs false
def orders_within.f (a0 : Int) (a1 : Int) : Option (Bool) := if a0 ≥ 0 then (some (decide (a0 ≤ a1))) else (some false)
set_option maxHeartbeats 8000000 in
set_option maxRecDepth 100000 in
theorem orders_within.calls (a0 : Int) (a1 : Int) (r : Bool) (w : World) (h : orders_within.f a0 a1 = some r) :
    Calls Try.prog 32 #[.int .i64 a0, .int .i64 a1] w fun e w' => e = .returned (.bool r) ∧ Drawn0 w w' := by
  have H : (if a0 ≥ 0 then (some (decide (a0 ≤ a1))) else (some false)) = some r := h
  clear h
  by_cases c3 : a0 ≥ 0
  · rw [if_pos c3] at H
    have c3b0 : decide (0 ≤ a0) = true := decide_eq_true c3
    clear c3
    obtain rfl := Option.some.inj H
    go_enter Try.func32, Try.ntmps32
    go_wp2
    go_ret
    exact ⟨by first | rfl | (simp; done) | (simp [*]; done), by repeat (first | exact Drawn0.refl _ | apply Drawn0.step)⟩
  · rw [if_neg c3] at H
    have c3b0 : decide (0 ≤ a0) = false := decide_eq_false c3
    clear c3
    obtain rfl := Option.some.inj H
    go_enter Try.func32, Try.ntmps32
    go_wp2
    go_ret
    exact ⟨by first | rfl | (simp; done) | (simp [*]; done), by repeat (first | exact Drawn0.refl _ | apply Drawn0.step)⟩
def orders_formed.f (a0_0 : Int) (a0_1 : ByteArray) (a0_2 : ByteArray) (a0_3 : Int) (a0_4 : Int) (a0_5 : Int) (a0_6 : Int) (a0_7 : Bool) : Option (Bool) := if a0_0 ≥ 1 then (if a0_0 ≤ 1000000 then ((orders_name.f a0_1).bind fun t102 => (if t102 = true then ((orders_name.f a0_2).bind fun t103 => (if t103 = true then ((orders_within.f a0_3 1000000).bind fun t104 => (if t104 = true then ((orders_within.f a0_4 36524).bind fun t105 => (if t105 = true then ((orders_within.f a0_5 1199).bind fun t106 => (if t106 = true then ((orders_within.f a0_6 1000000000000).bind fun t107 => (some t107)) else (some false))) else (some false))) else (some false))) else (some false))) else (some false))) else (some false)) else (some false)
set_option maxHeartbeats 8000000 in
set_option maxRecDepth 100000 in
theorem orders_formed.calls (a0_0 : Int) (a0_1 : ByteArray) (a0_2 : ByteArray) (a0_3 : Int) (a0_4 : Int) (a0_5 : Int) (a0_6 : Int) (a0_7 : Bool) (r : Bool) (w : World) (h : orders_formed.f a0_0 a0_1 a0_2 a0_3 a0_4 a0_5 a0_6 a0_7 = some r) :
    Calls Try.prog 20 #[.agg #[.int .i64 a0_0, .string a0_1, .string a0_2, .int .i64 a0_3, .int .i64 a0_4, .int .i64 a0_5, .int .i64 a0_6, .bool a0_7]] w fun e w' => e = .returned (.bool r) ∧ Below w.heap.size w w' := by
  have hu24 := Try.underlying24
  have HB := Aside0.mk (Below.refl w.heap.size w)
  have H : (if a0_0 ≥ 1 then (if a0_0 ≤ 1000000 then ((orders_name.f a0_1).bind fun t102 => (if t102 = true then ((orders_name.f a0_2).bind fun t103 => (if t103 = true then ((orders_within.f a0_3 1000000).bind fun t104 => (if t104 = true then ((orders_within.f a0_4 36524).bind fun t105 => (if t105 = true then ((orders_within.f a0_5 1199).bind fun t106 => (if t106 = true then ((orders_within.f a0_6 1000000000000).bind fun t107 => (some t107)) else (some false))) else (some false))) else (some false))) else (some false))) else (some false))) else (some false)) else (some false)) = some r := h
  clear h
  by_cases c2 : a0_0 ≥ 1
  · rw [if_pos c2] at H
    have c2b0 : decide (1 ≤ a0_0) = true := decide_eq_true c2
    clear c2
    by_cases c3 : a0_0 ≤ 1000000
    · rw [if_pos c3] at H
      have c3b0 : decide (a0_0 ≤ 1000000) = true := decide_eq_true c3
      clear c3
      replace H := Option.bind_eq_some_iff.mp H
      obtain ⟨t102, A40, H⟩ := H
      replace H : (if t102 = true then ((orders_name.f a0_2).bind fun t103 => (if t103 = true then ((orders_within.f a0_3 1000000).bind fun t104 => (if t104 = true then ((orders_within.f a0_4 36524).bind fun t105 => (if t105 = true then ((orders_within.f a0_5 1199).bind fun t106 => (if t106 = true then ((orders_within.f a0_6 1000000000000).bind fun t107 => (some t107)) else (some false))) else (some false))) else (some false))) else (some false))) else (some false)) = some r := H
      have A4 := Aside0.mk A40
      clear A40
      by_cases c5 : t102 = true
      · subst c5
        have H1 : ((orders_name.f a0_2).bind fun t103 => (if t103 = true then ((orders_within.f a0_3 1000000).bind fun t104 => (if t104 = true then ((orders_within.f a0_4 36524).bind fun t105 => (if t105 = true then ((orders_within.f a0_5 1199).bind fun t106 => (if t106 = true then ((orders_within.f a0_6 1000000000000).bind fun t107 => (some t107)) else (some false))) else (some false))) else (some false))) else (some false))) = some r := by rw [if_pos rfl] at H; exact H
        clear H
        have H := H1
        clear H1
        replace H := Option.bind_eq_some_iff.mp H
        obtain ⟨t103, A60, H⟩ := H
        replace H : (if t103 = true then ((orders_within.f a0_3 1000000).bind fun t104 => (if t104 = true then ((orders_within.f a0_4 36524).bind fun t105 => (if t105 = true then ((orders_within.f a0_5 1199).bind fun t106 => (if t106 = true then ((orders_within.f a0_6 1000000000000).bind fun t107 => (some t107)) else (some false))) else (some false))) else (some false))) else (some false)) = some r := H
        have A6 := Aside0.mk A60
        clear A60
        by_cases c7 : t103 = true
        · subst c7
          have H1 : ((orders_within.f a0_3 1000000).bind fun t104 => (if t104 = true then ((orders_within.f a0_4 36524).bind fun t105 => (if t105 = true then ((orders_within.f a0_5 1199).bind fun t106 => (if t106 = true then ((orders_within.f a0_6 1000000000000).bind fun t107 => (some t107)) else (some false))) else (some false))) else (some false))) = some r := by rw [if_pos rfl] at H; exact H
          clear H
          have H := H1
          clear H1
          replace H := Option.bind_eq_some_iff.mp H
          obtain ⟨t104, A80, H⟩ := H
          replace H : (if t104 = true then ((orders_within.f a0_4 36524).bind fun t105 => (if t105 = true then ((orders_within.f a0_5 1199).bind fun t106 => (if t106 = true then ((orders_within.f a0_6 1000000000000).bind fun t107 => (some t107)) else (some false))) else (some false))) else (some false)) = some r := H
          have A8 := Aside0.mk A80
          clear A80
          by_cases c9 : t104 = true
          · subst c9
            have H1 : ((orders_within.f a0_4 36524).bind fun t105 => (if t105 = true then ((orders_within.f a0_5 1199).bind fun t106 => (if t106 = true then ((orders_within.f a0_6 1000000000000).bind fun t107 => (some t107)) else (some false))) else (some false))) = some r := by rw [if_pos rfl] at H; exact H
            clear H
            have H := H1
            clear H1
            replace H := Option.bind_eq_some_iff.mp H
            obtain ⟨t105, A100, H⟩ := H
            replace H : (if t105 = true then ((orders_within.f a0_5 1199).bind fun t106 => (if t106 = true then ((orders_within.f a0_6 1000000000000).bind fun t107 => (some t107)) else (some false))) else (some false)) = some r := H
            have A10 := Aside0.mk A100
            clear A100
            by_cases c11 : t105 = true
            · subst c11
              have H1 : ((orders_within.f a0_5 1199).bind fun t106 => (if t106 = true then ((orders_within.f a0_6 1000000000000).bind fun t107 => (some t107)) else (some false))) = some r := by rw [if_pos rfl] at H; exact H
              clear H
              have H := H1
              clear H1
              replace H := Option.bind_eq_some_iff.mp H
              obtain ⟨t106, A120, H⟩ := H
              replace H : (if t106 = true then ((orders_within.f a0_6 1000000000000).bind fun t107 => (some t107)) else (some false)) = some r := H
              have A12 := Aside0.mk A120
              clear A120
              by_cases c13 : t106 = true
              · subst c13
                have H1 : ((orders_within.f a0_6 1000000000000).bind fun t107 => (some t107)) = some r := by rw [if_pos rfl] at H; exact H
                clear H
                have H := H1
                clear H1
                replace H := Option.bind_eq_some_iff.mp H
                obtain ⟨t107, A140, H⟩ := H
                replace H : (some t107) = some r := H
                have A14 := Aside0.mk A140
                clear A140
                obtain rfl := Option.some.inj H
                go_enter Try.func20, Try.ntmps20
                go_wp2_with (first | ((with_reducible refine gate_dst (N := 1) rfl ?_); refine box_event ?hg (N := 1) ?hd (cs := #[.int .i64 a0_0, .string a0_1, .string a0_2, .int .i64 a0_3, .int .i64 a0_4, .int .i64 a0_5, .int .i64 a0_6, .bool a0_7]) (t := 24) ?hr ?_; (case hd => rfl); (case hg => rfl); (case hr => first | (go_simp; done) | (go_simp; rfl)); intro gb101 hg w15 hbox hb; have n0_ := Aside0.mk (below_step (by repeat (first | (with_reducible first | exact HB.out | apply below_alloc | apply pw_below_drewN | apply below_drew1) | exact HB.out)) hb); have n1_ := Aside0.mk (hbox); have n2_ := Aside0.mk ((by rw [hg]; exact (below_size (by repeat (first | (with_reducible first | exact HB.out | apply below_alloc | apply pw_below_drewN | apply below_drew1) | exact HB.out))) : w.heap.size ≤ gb101)); have n3_ := Aside0.mk ((by rw [hg]; exact (below_size (by repeat (first | (with_reducible first | exact HB.out | apply below_alloc | apply pw_below_drewN | apply below_drew1) | exact HB.out))) : w.heap.size ≤ gb101)); clear HB; have HB := n0_; have BK101 := n1_; have GW101 := n2_; have GE101 := n3_; clear n0_ n1_ n2_ n3_; clear hb hbox hg; have hcz16_0 : w15.cell? ⟨gb101, 0, none⟩ = some (.int .i64 a0_0) := (blk_cell BK101.out 0).trans rfl; have hcz16_1 : w15.cell? ⟨gb101, 1, none⟩ = some (.string a0_1) := (blk_cell BK101.out 1).trans rfl; have hcz16_2 : w15.cell? ⟨gb101, 2, none⟩ = some (.string a0_2) := (blk_cell BK101.out 2).trans rfl; have hcz16_3 : w15.cell? ⟨gb101, 3, none⟩ = some (.int .i64 a0_3) := (blk_cell BK101.out 3).trans rfl; have hcz16_4 : w15.cell? ⟨gb101, 4, none⟩ = some (.int .i64 a0_4) := (blk_cell BK101.out 4).trans rfl; have hcz16_5 : w15.cell? ⟨gb101, 5, none⟩ = some (.int .i64 a0_5) := (blk_cell BK101.out 5).trans rfl; have hcz16_6 : w15.cell? ⟨gb101, 6, none⟩ = some (.int .i64 a0_6) := (blk_cell BK101.out 6).trans rfl; have hcz16_7 : w15.cell? ⟨gb101, 7, none⟩ = some (.bool a0_7) := (blk_cell BK101.out 7).trans rfl; have hfz16_0 := blk_frozen BK101.out 0; have hfz16_1 := blk_frozen BK101.out 1; have hfz16_2 := blk_frozen BK101.out 2; have hfz16_3 := blk_frozen BK101.out 3; have hfz16_4 := blk_frozen BK101.out 4; have hfz16_5 := blk_frozen BK101.out 5; have hfz16_6 := blk_frozen BK101.out 6; have hfz16_7 := blk_frozen BK101.out 7) | (go_at_call 31; (with_reducible refine (orders_name.calls a0_1 true _ A4.out).mono ?_); rintro e w17 ⟨rfl, hb⟩; have n0_ := Aside0.mk (blk_below (g := gb101) (o := .cells #[.int .i64 a0_0, .string a0_1, .string a0_2, .int .i64 a0_3, .int .i64 a0_4, .int .i64 a0_5, .int .i64 a0_6, .bool a0_7] 24 (0, 0)) (by (with_reducible repeat (first | refine blk_drewN ?_ _ | refine blk_drew ?_ | refine blk_alloc ?_ _)); exact BK101.out) hb); have n1_ := Aside0.mk (below_step (by repeat (first | (with_reducible first | exact HB.out | apply below_alloc | apply pw_below_drewN | apply below_drew1 | refine below_set ?_ GE101.out) | exact HB.out)) hb); clear BK101; clear HB; have BK101 := n0_; have HB := n1_; clear n0_ n1_; (try clear hb); (try clear hb2); (try clear hk); (try clear hi); have hcz18_0 : w17.cell? ⟨gb101, 0, none⟩ = some (.int .i64 a0_0) := (blk_cell BK101.out 0).trans rfl; have hcz18_1 : w17.cell? ⟨gb101, 1, none⟩ = some (.string a0_1) := (blk_cell BK101.out 1).trans rfl; have hcz18_2 : w17.cell? ⟨gb101, 2, none⟩ = some (.string a0_2) := (blk_cell BK101.out 2).trans rfl; have hcz18_3 : w17.cell? ⟨gb101, 3, none⟩ = some (.int .i64 a0_3) := (blk_cell BK101.out 3).trans rfl; have hcz18_4 : w17.cell? ⟨gb101, 4, none⟩ = some (.int .i64 a0_4) := (blk_cell BK101.out 4).trans rfl; have hcz18_5 : w17.cell? ⟨gb101, 5, none⟩ = some (.int .i64 a0_5) := (blk_cell BK101.out 5).trans rfl; have hcz18_6 : w17.cell? ⟨gb101, 6, none⟩ = some (.int .i64 a0_6) := (blk_cell BK101.out 6).trans rfl; have hcz18_7 : w17.cell? ⟨gb101, 7, none⟩ = some (.bool a0_7) := (blk_cell BK101.out 7).trans rfl; have hfz18_0 := blk_frozen BK101.out 0; have hfz18_1 := blk_frozen BK101.out 1; have hfz18_2 := blk_frozen BK101.out 2; have hfz18_3 := blk_frozen BK101.out 3; have hfz18_4 := blk_frozen BK101.out 4; have hfz18_5 := blk_frozen BK101.out 5; have hfz18_6 := blk_frozen BK101.out 6; have hfz18_7 := blk_frozen BK101.out 7) | (go_at_call 31; (with_reducible refine (orders_name.calls a0_2 true _ A6.out).mono ?_); rintro e w19 ⟨rfl, hb⟩; have n0_ := Aside0.mk (blk_below (g := gb101) (o := .cells #[.int .i64 a0_0, .string a0_1, .string a0_2, .int .i64 a0_3, .int .i64 a0_4, .int .i64 a0_5, .int .i64 a0_6, .bool a0_7] 24 (0, 0)) (by (with_reducible repeat (first | refine blk_drewN ?_ _ | refine blk_drew ?_ | refine blk_alloc ?_ _)); exact BK101.out) hb); have n1_ := Aside0.mk (below_step (by repeat (first | (with_reducible first | exact HB.out | apply below_alloc | apply pw_below_drewN | apply below_drew1 | refine below_set ?_ GE101.out) | exact HB.out)) hb); clear BK101; clear HB; have BK101 := n0_; have HB := n1_; clear n0_ n1_; (try clear hb); (try clear hb2); (try clear hk); (try clear hi); have hcz20_0 : w19.cell? ⟨gb101, 0, none⟩ = some (.int .i64 a0_0) := (blk_cell BK101.out 0).trans rfl; have hcz20_1 : w19.cell? ⟨gb101, 1, none⟩ = some (.string a0_1) := (blk_cell BK101.out 1).trans rfl; have hcz20_2 : w19.cell? ⟨gb101, 2, none⟩ = some (.string a0_2) := (blk_cell BK101.out 2).trans rfl; have hcz20_3 : w19.cell? ⟨gb101, 3, none⟩ = some (.int .i64 a0_3) := (blk_cell BK101.out 3).trans rfl; have hcz20_4 : w19.cell? ⟨gb101, 4, none⟩ = some (.int .i64 a0_4) := (blk_cell BK101.out 4).trans rfl; have hcz20_5 : w19.cell? ⟨gb101, 5, none⟩ = some (.int .i64 a0_5) := (blk_cell BK101.out 5).trans rfl; have hcz20_6 : w19.cell? ⟨gb101, 6, none⟩ = some (.int .i64 a0_6) := (blk_cell BK101.out 6).trans rfl; have hcz20_7 : w19.cell? ⟨gb101, 7, none⟩ = some (.bool a0_7) := (blk_cell BK101.out 7).trans rfl; have hfz20_0 := blk_frozen BK101.out 0; have hfz20_1 := blk_frozen BK101.out 1; have hfz20_2 := blk_frozen BK101.out 2; have hfz20_3 := blk_frozen BK101.out 3; have hfz20_4 := blk_frozen BK101.out 4; have hfz20_5 := blk_frozen BK101.out 5; have hfz20_6 := blk_frozen BK101.out 6; have hfz20_7 := blk_frozen BK101.out 7) | (go_at_call 32; (with_reducible refine (orders_within.calls a0_3 1000000 true _ A8.out).mono ?_); rintro e w' ⟨rfl, ⟨nd, rfl⟩⟩) | (go_at_call 32; (with_reducible refine (orders_within.calls a0_4 36524 true _ A10.out).mono ?_); rintro e w' ⟨rfl, ⟨nd, rfl⟩⟩) | (go_at_call 32; (with_reducible refine (orders_within.calls a0_5 1199 true _ A12.out).mono ?_); rintro e w' ⟨rfl, ⟨nd, rfl⟩⟩) | (go_at_call 32; (with_reducible refine (orders_within.calls a0_6 1000000000000 t107 _ A14.out).mono ?_); rintro e w' ⟨rfl, ⟨nd, rfl⟩⟩))
                go_ret
                exact ⟨by first | rfl | (simp [errW_none, errW_some] <;> rfl) | (simp [*, errW_none, errW_some] <;> rfl), by repeat (first | (with_reducible first | exact HB.out | apply below_alloc | apply pw_below_drewN | apply below_drew1 | refine below_set ?_ GE101.out) | exact HB.out)⟩
              · replace c13 := Bool.eq_false_iff.mpr c13
                subst c13
                have H1 : (some false) = some r := by rw [if_neg (show ¬ (false = true) by decide)] at H; exact H
                clear H
                have H := H1
                clear H1
                obtain rfl := Option.some.inj H
                go_enter Try.func20, Try.ntmps20
                go_wp2_with (first | ((with_reducible refine gate_dst (N := 1) rfl ?_); refine box_event ?hg (N := 1) ?hd (cs := #[.int .i64 a0_0, .string a0_1, .string a0_2, .int .i64 a0_3, .int .i64 a0_4, .int .i64 a0_5, .int .i64 a0_6, .bool a0_7]) (t := 24) ?hr ?_; (case hd => rfl); (case hg => rfl); (case hr => first | (go_simp; done) | (go_simp; rfl)); intro gb101 hg w21 hbox hb; have n0_ := Aside0.mk (below_step (by repeat (first | (with_reducible first | exact HB.out | apply below_alloc | apply pw_below_drewN | apply below_drew1) | exact HB.out)) hb); have n1_ := Aside0.mk (hbox); have n2_ := Aside0.mk ((by rw [hg]; exact (below_size (by repeat (first | (with_reducible first | exact HB.out | apply below_alloc | apply pw_below_drewN | apply below_drew1) | exact HB.out))) : w.heap.size ≤ gb101)); have n3_ := Aside0.mk ((by rw [hg]; exact (below_size (by repeat (first | (with_reducible first | exact HB.out | apply below_alloc | apply pw_below_drewN | apply below_drew1) | exact HB.out))) : w.heap.size ≤ gb101)); clear HB; have HB := n0_; have BK101 := n1_; have GW101 := n2_; have GE101 := n3_; clear n0_ n1_ n2_ n3_; clear hb hbox hg; have hcz22_0 : w21.cell? ⟨gb101, 0, none⟩ = some (.int .i64 a0_0) := (blk_cell BK101.out 0).trans rfl; have hcz22_1 : w21.cell? ⟨gb101, 1, none⟩ = some (.string a0_1) := (blk_cell BK101.out 1).trans rfl; have hcz22_2 : w21.cell? ⟨gb101, 2, none⟩ = some (.string a0_2) := (blk_cell BK101.out 2).trans rfl; have hcz22_3 : w21.cell? ⟨gb101, 3, none⟩ = some (.int .i64 a0_3) := (blk_cell BK101.out 3).trans rfl; have hcz22_4 : w21.cell? ⟨gb101, 4, none⟩ = some (.int .i64 a0_4) := (blk_cell BK101.out 4).trans rfl; have hcz22_5 : w21.cell? ⟨gb101, 5, none⟩ = some (.int .i64 a0_5) := (blk_cell BK101.out 5).trans rfl; have hcz22_6 : w21.cell? ⟨gb101, 6, none⟩ = some (.int .i64 a0_6) := (blk_cell BK101.out 6).trans rfl; have hcz22_7 : w21.cell? ⟨gb101, 7, none⟩ = some (.bool a0_7) := (blk_cell BK101.out 7).trans rfl; have hfz22_0 := blk_frozen BK101.out 0; have hfz22_1 := blk_frozen BK101.out 1; have hfz22_2 := blk_frozen BK101.out 2; have hfz22_3 := blk_frozen BK101.out 3; have hfz22_4 := blk_frozen BK101.out 4; have hfz22_5 := blk_frozen BK101.out 5; have hfz22_6 := blk_frozen BK101.out 6; have hfz22_7 := blk_frozen BK101.out 7) | (go_at_call 31; (with_reducible refine (orders_name.calls a0_1 true _ A4.out).mono ?_); rintro e w23 ⟨rfl, hb⟩; have n0_ := Aside0.mk (blk_below (g := gb101) (o := .cells #[.int .i64 a0_0, .string a0_1, .string a0_2, .int .i64 a0_3, .int .i64 a0_4, .int .i64 a0_5, .int .i64 a0_6, .bool a0_7] 24 (0, 0)) (by (with_reducible repeat (first | refine blk_drewN ?_ _ | refine blk_drew ?_ | refine blk_alloc ?_ _)); exact BK101.out) hb); have n1_ := Aside0.mk (below_step (by repeat (first | (with_reducible first | exact HB.out | apply below_alloc | apply pw_below_drewN | apply below_drew1 | refine below_set ?_ GE101.out) | exact HB.out)) hb); clear BK101; clear HB; have BK101 := n0_; have HB := n1_; clear n0_ n1_; (try clear hb); (try clear hb2); (try clear hk); (try clear hi); have hcz24_0 : w23.cell? ⟨gb101, 0, none⟩ = some (.int .i64 a0_0) := (blk_cell BK101.out 0).trans rfl; have hcz24_1 : w23.cell? ⟨gb101, 1, none⟩ = some (.string a0_1) := (blk_cell BK101.out 1).trans rfl; have hcz24_2 : w23.cell? ⟨gb101, 2, none⟩ = some (.string a0_2) := (blk_cell BK101.out 2).trans rfl; have hcz24_3 : w23.cell? ⟨gb101, 3, none⟩ = some (.int .i64 a0_3) := (blk_cell BK101.out 3).trans rfl; have hcz24_4 : w23.cell? ⟨gb101, 4, none⟩ = some (.int .i64 a0_4) := (blk_cell BK101.out 4).trans rfl; have hcz24_5 : w23.cell? ⟨gb101, 5, none⟩ = some (.int .i64 a0_5) := (blk_cell BK101.out 5).trans rfl; have hcz24_6 : w23.cell? ⟨gb101, 6, none⟩ = some (.int .i64 a0_6) := (blk_cell BK101.out 6).trans rfl; have hcz24_7 : w23.cell? ⟨gb101, 7, none⟩ = some (.bool a0_7) := (blk_cell BK101.out 7).trans rfl; have hfz24_0 := blk_frozen BK101.out 0; have hfz24_1 := blk_frozen BK101.out 1; have hfz24_2 := blk_frozen BK101.out 2; have hfz24_3 := blk_frozen BK101.out 3; have hfz24_4 := blk_frozen BK101.out 4; have hfz24_5 := blk_frozen BK101.out 5; have hfz24_6 := blk_frozen BK101.out 6; have hfz24_7 := blk_frozen BK101.out 7) | (go_at_call 31; (with_reducible refine (orders_name.calls a0_2 true _ A6.out).mono ?_); rintro e w25 ⟨rfl, hb⟩; have n0_ := Aside0.mk (blk_below (g := gb101) (o := .cells #[.int .i64 a0_0, .string a0_1, .string a0_2, .int .i64 a0_3, .int .i64 a0_4, .int .i64 a0_5, .int .i64 a0_6, .bool a0_7] 24 (0, 0)) (by (with_reducible repeat (first | refine blk_drewN ?_ _ | refine blk_drew ?_ | refine blk_alloc ?_ _)); exact BK101.out) hb); have n1_ := Aside0.mk (below_step (by repeat (first | (with_reducible first | exact HB.out | apply below_alloc | apply pw_below_drewN | apply below_drew1 | refine below_set ?_ GE101.out) | exact HB.out)) hb); clear BK101; clear HB; have BK101 := n0_; have HB := n1_; clear n0_ n1_; (try clear hb); (try clear hb2); (try clear hk); (try clear hi); have hcz26_0 : w25.cell? ⟨gb101, 0, none⟩ = some (.int .i64 a0_0) := (blk_cell BK101.out 0).trans rfl; have hcz26_1 : w25.cell? ⟨gb101, 1, none⟩ = some (.string a0_1) := (blk_cell BK101.out 1).trans rfl; have hcz26_2 : w25.cell? ⟨gb101, 2, none⟩ = some (.string a0_2) := (blk_cell BK101.out 2).trans rfl; have hcz26_3 : w25.cell? ⟨gb101, 3, none⟩ = some (.int .i64 a0_3) := (blk_cell BK101.out 3).trans rfl; have hcz26_4 : w25.cell? ⟨gb101, 4, none⟩ = some (.int .i64 a0_4) := (blk_cell BK101.out 4).trans rfl; have hcz26_5 : w25.cell? ⟨gb101, 5, none⟩ = some (.int .i64 a0_5) := (blk_cell BK101.out 5).trans rfl; have hcz26_6 : w25.cell? ⟨gb101, 6, none⟩ = some (.int .i64 a0_6) := (blk_cell BK101.out 6).trans rfl; have hcz26_7 : w25.cell? ⟨gb101, 7, none⟩ = some (.bool a0_7) := (blk_cell BK101.out 7).trans rfl; have hfz26_0 := blk_frozen BK101.out 0; have hfz26_1 := blk_frozen BK101.out 1; have hfz26_2 := blk_frozen BK101.out 2; have hfz26_3 := blk_frozen BK101.out 3; have hfz26_4 := blk_frozen BK101.out 4; have hfz26_5 := blk_frozen BK101.out 5; have hfz26_6 := blk_frozen BK101.out 6; have hfz26_7 := blk_frozen BK101.out 7) | (go_at_call 32; (with_reducible refine (orders_within.calls a0_3 1000000 true _ A8.out).mono ?_); rintro e w' ⟨rfl, ⟨nd, rfl⟩⟩) | (go_at_call 32; (with_reducible refine (orders_within.calls a0_4 36524 true _ A10.out).mono ?_); rintro e w' ⟨rfl, ⟨nd, rfl⟩⟩) | (go_at_call 32; (with_reducible refine (orders_within.calls a0_5 1199 false _ A12.out).mono ?_); rintro e w' ⟨rfl, ⟨nd, rfl⟩⟩))
                go_ret
                exact ⟨by first | rfl | (simp [errW_none, errW_some] <;> rfl) | (simp [*, errW_none, errW_some] <;> rfl), by repeat (first | (with_reducible first | exact HB.out | apply below_alloc | apply pw_below_drewN | apply below_drew1 | refine below_set ?_ GE101.out) | exact HB.out)⟩
            · replace c11 := Bool.eq_false_iff.mpr c11
              subst c11
              have H1 : (some false) = some r := by rw [if_neg (show ¬ (false = true) by decide)] at H; exact H
              clear H
              have H := H1
              clear H1
              obtain rfl := Option.some.inj H
              go_enter Try.func20, Try.ntmps20
              go_wp2_with (first | ((with_reducible refine gate_dst (N := 1) rfl ?_); refine box_event ?hg (N := 1) ?hd (cs := #[.int .i64 a0_0, .string a0_1, .string a0_2, .int .i64 a0_3, .int .i64 a0_4, .int .i64 a0_5, .int .i64 a0_6, .bool a0_7]) (t := 24) ?hr ?_; (case hd => rfl); (case hg => rfl); (case hr => first | (go_simp; done) | (go_simp; rfl)); intro gb101 hg w27 hbox hb; have n0_ := Aside0.mk (below_step (by repeat (first | (with_reducible first | exact HB.out | apply below_alloc | apply pw_below_drewN | apply below_drew1) | exact HB.out)) hb); have n1_ := Aside0.mk (hbox); have n2_ := Aside0.mk ((by rw [hg]; exact (below_size (by repeat (first | (with_reducible first | exact HB.out | apply below_alloc | apply pw_below_drewN | apply below_drew1) | exact HB.out))) : w.heap.size ≤ gb101)); have n3_ := Aside0.mk ((by rw [hg]; exact (below_size (by repeat (first | (with_reducible first | exact HB.out | apply below_alloc | apply pw_below_drewN | apply below_drew1) | exact HB.out))) : w.heap.size ≤ gb101)); clear HB; have HB := n0_; have BK101 := n1_; have GW101 := n2_; have GE101 := n3_; clear n0_ n1_ n2_ n3_; clear hb hbox hg; have hcz28_0 : w27.cell? ⟨gb101, 0, none⟩ = some (.int .i64 a0_0) := (blk_cell BK101.out 0).trans rfl; have hcz28_1 : w27.cell? ⟨gb101, 1, none⟩ = some (.string a0_1) := (blk_cell BK101.out 1).trans rfl; have hcz28_2 : w27.cell? ⟨gb101, 2, none⟩ = some (.string a0_2) := (blk_cell BK101.out 2).trans rfl; have hcz28_3 : w27.cell? ⟨gb101, 3, none⟩ = some (.int .i64 a0_3) := (blk_cell BK101.out 3).trans rfl; have hcz28_4 : w27.cell? ⟨gb101, 4, none⟩ = some (.int .i64 a0_4) := (blk_cell BK101.out 4).trans rfl; have hcz28_5 : w27.cell? ⟨gb101, 5, none⟩ = some (.int .i64 a0_5) := (blk_cell BK101.out 5).trans rfl; have hcz28_6 : w27.cell? ⟨gb101, 6, none⟩ = some (.int .i64 a0_6) := (blk_cell BK101.out 6).trans rfl; have hcz28_7 : w27.cell? ⟨gb101, 7, none⟩ = some (.bool a0_7) := (blk_cell BK101.out 7).trans rfl; have hfz28_0 := blk_frozen BK101.out 0; have hfz28_1 := blk_frozen BK101.out 1; have hfz28_2 := blk_frozen BK101.out 2; have hfz28_3 := blk_frozen BK101.out 3; have hfz28_4 := blk_frozen BK101.out 4; have hfz28_5 := blk_frozen BK101.out 5; have hfz28_6 := blk_frozen BK101.out 6; have hfz28_7 := blk_frozen BK101.out 7) | (go_at_call 31; (with_reducible refine (orders_name.calls a0_1 true _ A4.out).mono ?_); rintro e w29 ⟨rfl, hb⟩; have n0_ := Aside0.mk (blk_below (g := gb101) (o := .cells #[.int .i64 a0_0, .string a0_1, .string a0_2, .int .i64 a0_3, .int .i64 a0_4, .int .i64 a0_5, .int .i64 a0_6, .bool a0_7] 24 (0, 0)) (by (with_reducible repeat (first | refine blk_drewN ?_ _ | refine blk_drew ?_ | refine blk_alloc ?_ _)); exact BK101.out) hb); have n1_ := Aside0.mk (below_step (by repeat (first | (with_reducible first | exact HB.out | apply below_alloc | apply pw_below_drewN | apply below_drew1 | refine below_set ?_ GE101.out) | exact HB.out)) hb); clear BK101; clear HB; have BK101 := n0_; have HB := n1_; clear n0_ n1_; (try clear hb); (try clear hb2); (try clear hk); (try clear hi); have hcz30_0 : w29.cell? ⟨gb101, 0, none⟩ = some (.int .i64 a0_0) := (blk_cell BK101.out 0).trans rfl; have hcz30_1 : w29.cell? ⟨gb101, 1, none⟩ = some (.string a0_1) := (blk_cell BK101.out 1).trans rfl; have hcz30_2 : w29.cell? ⟨gb101, 2, none⟩ = some (.string a0_2) := (blk_cell BK101.out 2).trans rfl; have hcz30_3 : w29.cell? ⟨gb101, 3, none⟩ = some (.int .i64 a0_3) := (blk_cell BK101.out 3).trans rfl; have hcz30_4 : w29.cell? ⟨gb101, 4, none⟩ = some (.int .i64 a0_4) := (blk_cell BK101.out 4).trans rfl; have hcz30_5 : w29.cell? ⟨gb101, 5, none⟩ = some (.int .i64 a0_5) := (blk_cell BK101.out 5).trans rfl; have hcz30_6 : w29.cell? ⟨gb101, 6, none⟩ = some (.int .i64 a0_6) := (blk_cell BK101.out 6).trans rfl; have hcz30_7 : w29.cell? ⟨gb101, 7, none⟩ = some (.bool a0_7) := (blk_cell BK101.out 7).trans rfl; have hfz30_0 := blk_frozen BK101.out 0; have hfz30_1 := blk_frozen BK101.out 1; have hfz30_2 := blk_frozen BK101.out 2; have hfz30_3 := blk_frozen BK101.out 3; have hfz30_4 := blk_frozen BK101.out 4; have hfz30_5 := blk_frozen BK101.out 5; have hfz30_6 := blk_frozen BK101.out 6; have hfz30_7 := blk_frozen BK101.out 7) | (go_at_call 31; (with_reducible refine (orders_name.calls a0_2 true _ A6.out).mono ?_); rintro e w31 ⟨rfl, hb⟩; have n0_ := Aside0.mk (blk_below (g := gb101) (o := .cells #[.int .i64 a0_0, .string a0_1, .string a0_2, .int .i64 a0_3, .int .i64 a0_4, .int .i64 a0_5, .int .i64 a0_6, .bool a0_7] 24 (0, 0)) (by (with_reducible repeat (first | refine blk_drewN ?_ _ | refine blk_drew ?_ | refine blk_alloc ?_ _)); exact BK101.out) hb); have n1_ := Aside0.mk (below_step (by repeat (first | (with_reducible first | exact HB.out | apply below_alloc | apply pw_below_drewN | apply below_drew1 | refine below_set ?_ GE101.out) | exact HB.out)) hb); clear BK101; clear HB; have BK101 := n0_; have HB := n1_; clear n0_ n1_; (try clear hb); (try clear hb2); (try clear hk); (try clear hi); have hcz32_0 : w31.cell? ⟨gb101, 0, none⟩ = some (.int .i64 a0_0) := (blk_cell BK101.out 0).trans rfl; have hcz32_1 : w31.cell? ⟨gb101, 1, none⟩ = some (.string a0_1) := (blk_cell BK101.out 1).trans rfl; have hcz32_2 : w31.cell? ⟨gb101, 2, none⟩ = some (.string a0_2) := (blk_cell BK101.out 2).trans rfl; have hcz32_3 : w31.cell? ⟨gb101, 3, none⟩ = some (.int .i64 a0_3) := (blk_cell BK101.out 3).trans rfl; have hcz32_4 : w31.cell? ⟨gb101, 4, none⟩ = some (.int .i64 a0_4) := (blk_cell BK101.out 4).trans rfl; have hcz32_5 : w31.cell? ⟨gb101, 5, none⟩ = some (.int .i64 a0_5) := (blk_cell BK101.out 5).trans rfl; have hcz32_6 : w31.cell? ⟨gb101, 6, none⟩ = some (.int .i64 a0_6) := (blk_cell BK101.out 6).trans rfl; have hcz32_7 : w31.cell? ⟨gb101, 7, none⟩ = some (.bool a0_7) := (blk_cell BK101.out 7).trans rfl; have hfz32_0 := blk_frozen BK101.out 0; have hfz32_1 := blk_frozen BK101.out 1; have hfz32_2 := blk_frozen BK101.out 2; have hfz32_3 := blk_frozen BK101.out 3; have hfz32_4 := blk_frozen BK101.out 4; have hfz32_5 := blk_frozen BK101.out 5; have hfz32_6 := blk_frozen BK101.out 6; have hfz32_7 := blk_frozen BK101.out 7) | (go_at_call 32; (with_reducible refine (orders_within.calls a0_3 1000000 true _ A8.out).mono ?_); rintro e w' ⟨rfl, ⟨nd, rfl⟩⟩) | (go_at_call 32; (with_reducible refine (orders_within.calls a0_4 36524 false _ A10.out).mono ?_); rintro e w' ⟨rfl, ⟨nd, rfl⟩⟩))
              go_ret
              exact ⟨by first | rfl | (simp [errW_none, errW_some] <;> rfl) | (simp [*, errW_none, errW_some] <;> rfl), by repeat (first | (with_reducible first | exact HB.out | apply below_alloc | apply pw_below_drewN | apply below_drew1 | refine below_set ?_ GE101.out) | exact HB.out)⟩
          · replace c9 := Bool.eq_false_iff.mpr c9
            subst c9
            have H1 : (some false) = some r := by rw [if_neg (show ¬ (false = true) by decide)] at H; exact H
            clear H
            have H := H1
            clear H1
            obtain rfl := Option.some.inj H
            go_enter Try.func20, Try.ntmps20
            go_wp2_with (first | ((with_reducible refine gate_dst (N := 1) rfl ?_); refine box_event ?hg (N := 1) ?hd (cs := #[.int .i64 a0_0, .string a0_1, .string a0_2, .int .i64 a0_3, .int .i64 a0_4, .int .i64 a0_5, .int .i64 a0_6, .bool a0_7]) (t := 24) ?hr ?_; (case hd => rfl); (case hg => rfl); (case hr => first | (go_simp; done) | (go_simp; rfl)); intro gb101 hg w33 hbox hb; have n0_ := Aside0.mk (below_step (by repeat (first | (with_reducible first | exact HB.out | apply below_alloc | apply pw_below_drewN | apply below_drew1) | exact HB.out)) hb); have n1_ := Aside0.mk (hbox); have n2_ := Aside0.mk ((by rw [hg]; exact (below_size (by repeat (first | (with_reducible first | exact HB.out | apply below_alloc | apply pw_below_drewN | apply below_drew1) | exact HB.out))) : w.heap.size ≤ gb101)); have n3_ := Aside0.mk ((by rw [hg]; exact (below_size (by repeat (first | (with_reducible first | exact HB.out | apply below_alloc | apply pw_below_drewN | apply below_drew1) | exact HB.out))) : w.heap.size ≤ gb101)); clear HB; have HB := n0_; have BK101 := n1_; have GW101 := n2_; have GE101 := n3_; clear n0_ n1_ n2_ n3_; clear hb hbox hg; have hcz34_0 : w33.cell? ⟨gb101, 0, none⟩ = some (.int .i64 a0_0) := (blk_cell BK101.out 0).trans rfl; have hcz34_1 : w33.cell? ⟨gb101, 1, none⟩ = some (.string a0_1) := (blk_cell BK101.out 1).trans rfl; have hcz34_2 : w33.cell? ⟨gb101, 2, none⟩ = some (.string a0_2) := (blk_cell BK101.out 2).trans rfl; have hcz34_3 : w33.cell? ⟨gb101, 3, none⟩ = some (.int .i64 a0_3) := (blk_cell BK101.out 3).trans rfl; have hcz34_4 : w33.cell? ⟨gb101, 4, none⟩ = some (.int .i64 a0_4) := (blk_cell BK101.out 4).trans rfl; have hcz34_5 : w33.cell? ⟨gb101, 5, none⟩ = some (.int .i64 a0_5) := (blk_cell BK101.out 5).trans rfl; have hcz34_6 : w33.cell? ⟨gb101, 6, none⟩ = some (.int .i64 a0_6) := (blk_cell BK101.out 6).trans rfl; have hcz34_7 : w33.cell? ⟨gb101, 7, none⟩ = some (.bool a0_7) := (blk_cell BK101.out 7).trans rfl; have hfz34_0 := blk_frozen BK101.out 0; have hfz34_1 := blk_frozen BK101.out 1; have hfz34_2 := blk_frozen BK101.out 2; have hfz34_3 := blk_frozen BK101.out 3; have hfz34_4 := blk_frozen BK101.out 4; have hfz34_5 := blk_frozen BK101.out 5; have hfz34_6 := blk_frozen BK101.out 6; have hfz34_7 := blk_frozen BK101.out 7) | (go_at_call 31; (with_reducible refine (orders_name.calls a0_1 true _ A4.out).mono ?_); rintro e w35 ⟨rfl, hb⟩; have n0_ := Aside0.mk (blk_below (g := gb101) (o := .cells #[.int .i64 a0_0, .string a0_1, .string a0_2, .int .i64 a0_3, .int .i64 a0_4, .int .i64 a0_5, .int .i64 a0_6, .bool a0_7] 24 (0, 0)) (by (with_reducible repeat (first | refine blk_drewN ?_ _ | refine blk_drew ?_ | refine blk_alloc ?_ _)); exact BK101.out) hb); have n1_ := Aside0.mk (below_step (by repeat (first | (with_reducible first | exact HB.out | apply below_alloc | apply pw_below_drewN | apply below_drew1 | refine below_set ?_ GE101.out) | exact HB.out)) hb); clear BK101; clear HB; have BK101 := n0_; have HB := n1_; clear n0_ n1_; (try clear hb); (try clear hb2); (try clear hk); (try clear hi); have hcz36_0 : w35.cell? ⟨gb101, 0, none⟩ = some (.int .i64 a0_0) := (blk_cell BK101.out 0).trans rfl; have hcz36_1 : w35.cell? ⟨gb101, 1, none⟩ = some (.string a0_1) := (blk_cell BK101.out 1).trans rfl; have hcz36_2 : w35.cell? ⟨gb101, 2, none⟩ = some (.string a0_2) := (blk_cell BK101.out 2).trans rfl; have hcz36_3 : w35.cell? ⟨gb101, 3, none⟩ = some (.int .i64 a0_3) := (blk_cell BK101.out 3).trans rfl; have hcz36_4 : w35.cell? ⟨gb101, 4, none⟩ = some (.int .i64 a0_4) := (blk_cell BK101.out 4).trans rfl; have hcz36_5 : w35.cell? ⟨gb101, 5, none⟩ = some (.int .i64 a0_5) := (blk_cell BK101.out 5).trans rfl; have hcz36_6 : w35.cell? ⟨gb101, 6, none⟩ = some (.int .i64 a0_6) := (blk_cell BK101.out 6).trans rfl; have hcz36_7 : w35.cell? ⟨gb101, 7, none⟩ = some (.bool a0_7) := (blk_cell BK101.out 7).trans rfl; have hfz36_0 := blk_frozen BK101.out 0; have hfz36_1 := blk_frozen BK101.out 1; have hfz36_2 := blk_frozen BK101.out 2; have hfz36_3 := blk_frozen BK101.out 3; have hfz36_4 := blk_frozen BK101.out 4; have hfz36_5 := blk_frozen BK101.out 5; have hfz36_6 := blk_frozen BK101.out 6; have hfz36_7 := blk_frozen BK101.out 7) | (go_at_call 31; (with_reducible refine (orders_name.calls a0_2 true _ A6.out).mono ?_); rintro e w37 ⟨rfl, hb⟩; have n0_ := Aside0.mk (blk_below (g := gb101) (o := .cells #[.int .i64 a0_0, .string a0_1, .string a0_2, .int .i64 a0_3, .int .i64 a0_4, .int .i64 a0_5, .int .i64 a0_6, .bool a0_7] 24 (0, 0)) (by (with_reducible repeat (first | refine blk_drewN ?_ _ | refine blk_drew ?_ | refine blk_alloc ?_ _)); exact BK101.out) hb); have n1_ := Aside0.mk (below_step (by repeat (first | (with_reducible first | exact HB.out | apply below_alloc | apply pw_below_drewN | apply below_drew1 | refine below_set ?_ GE101.out) | exact HB.out)) hb); clear BK101; clear HB; have BK101 := n0_; have HB := n1_; clear n0_ n1_; (try clear hb); (try clear hb2); (try clear hk); (try clear hi); have hcz38_0 : w37.cell? ⟨gb101, 0, none⟩ = some (.int .i64 a0_0) := (blk_cell BK101.out 0).trans rfl; have hcz38_1 : w37.cell? ⟨gb101, 1, none⟩ = some (.string a0_1) := (blk_cell BK101.out 1).trans rfl; have hcz38_2 : w37.cell? ⟨gb101, 2, none⟩ = some (.string a0_2) := (blk_cell BK101.out 2).trans rfl; have hcz38_3 : w37.cell? ⟨gb101, 3, none⟩ = some (.int .i64 a0_3) := (blk_cell BK101.out 3).trans rfl; have hcz38_4 : w37.cell? ⟨gb101, 4, none⟩ = some (.int .i64 a0_4) := (blk_cell BK101.out 4).trans rfl; have hcz38_5 : w37.cell? ⟨gb101, 5, none⟩ = some (.int .i64 a0_5) := (blk_cell BK101.out 5).trans rfl; have hcz38_6 : w37.cell? ⟨gb101, 6, none⟩ = some (.int .i64 a0_6) := (blk_cell BK101.out 6).trans rfl; have hcz38_7 : w37.cell? ⟨gb101, 7, none⟩ = some (.bool a0_7) := (blk_cell BK101.out 7).trans rfl; have hfz38_0 := blk_frozen BK101.out 0; have hfz38_1 := blk_frozen BK101.out 1; have hfz38_2 := blk_frozen BK101.out 2; have hfz38_3 := blk_frozen BK101.out 3; have hfz38_4 := blk_frozen BK101.out 4; have hfz38_5 := blk_frozen BK101.out 5; have hfz38_6 := blk_frozen BK101.out 6; have hfz38_7 := blk_frozen BK101.out 7) | (go_at_call 32; (with_reducible refine (orders_within.calls a0_3 1000000 false _ A8.out).mono ?_); rintro e w' ⟨rfl, ⟨nd, rfl⟩⟩))
            go_ret
            exact ⟨by first | rfl | (simp [errW_none, errW_some] <;> rfl) | (simp [*, errW_none, errW_some] <;> rfl), by repeat (first | (with_reducible first | exact HB.out | apply below_alloc | apply pw_below_drewN | apply below_drew1 | refine below_set ?_ GE101.out) | exact HB.out)⟩
        · replace c7 := Bool.eq_false_iff.mpr c7
          subst c7
          have H1 : (some false) = some r := by rw [if_neg (show ¬ (false = true) by decide)] at H; exact H
          clear H
          have H := H1
          clear H1
          obtain rfl := Option.some.inj H
          go_enter Try.func20, Try.ntmps20
          go_wp2_with (first | ((with_reducible refine gate_dst (N := 1) rfl ?_); refine box_event ?hg (N := 1) ?hd (cs := #[.int .i64 a0_0, .string a0_1, .string a0_2, .int .i64 a0_3, .int .i64 a0_4, .int .i64 a0_5, .int .i64 a0_6, .bool a0_7]) (t := 24) ?hr ?_; (case hd => rfl); (case hg => rfl); (case hr => first | (go_simp; done) | (go_simp; rfl)); intro gb101 hg w39 hbox hb; have n0_ := Aside0.mk (below_step (by repeat (first | (with_reducible first | exact HB.out | apply below_alloc | apply pw_below_drewN | apply below_drew1) | exact HB.out)) hb); have n1_ := Aside0.mk (hbox); have n2_ := Aside0.mk ((by rw [hg]; exact (below_size (by repeat (first | (with_reducible first | exact HB.out | apply below_alloc | apply pw_below_drewN | apply below_drew1) | exact HB.out))) : w.heap.size ≤ gb101)); have n3_ := Aside0.mk ((by rw [hg]; exact (below_size (by repeat (first | (with_reducible first | exact HB.out | apply below_alloc | apply pw_below_drewN | apply below_drew1) | exact HB.out))) : w.heap.size ≤ gb101)); clear HB; have HB := n0_; have BK101 := n1_; have GW101 := n2_; have GE101 := n3_; clear n0_ n1_ n2_ n3_; clear hb hbox hg; have hcz40_0 : w39.cell? ⟨gb101, 0, none⟩ = some (.int .i64 a0_0) := (blk_cell BK101.out 0).trans rfl; have hcz40_1 : w39.cell? ⟨gb101, 1, none⟩ = some (.string a0_1) := (blk_cell BK101.out 1).trans rfl; have hcz40_2 : w39.cell? ⟨gb101, 2, none⟩ = some (.string a0_2) := (blk_cell BK101.out 2).trans rfl; have hcz40_3 : w39.cell? ⟨gb101, 3, none⟩ = some (.int .i64 a0_3) := (blk_cell BK101.out 3).trans rfl; have hcz40_4 : w39.cell? ⟨gb101, 4, none⟩ = some (.int .i64 a0_4) := (blk_cell BK101.out 4).trans rfl; have hcz40_5 : w39.cell? ⟨gb101, 5, none⟩ = some (.int .i64 a0_5) := (blk_cell BK101.out 5).trans rfl; have hcz40_6 : w39.cell? ⟨gb101, 6, none⟩ = some (.int .i64 a0_6) := (blk_cell BK101.out 6).trans rfl; have hcz40_7 : w39.cell? ⟨gb101, 7, none⟩ = some (.bool a0_7) := (blk_cell BK101.out 7).trans rfl; have hfz40_0 := blk_frozen BK101.out 0; have hfz40_1 := blk_frozen BK101.out 1; have hfz40_2 := blk_frozen BK101.out 2; have hfz40_3 := blk_frozen BK101.out 3; have hfz40_4 := blk_frozen BK101.out 4; have hfz40_5 := blk_frozen BK101.out 5; have hfz40_6 := blk_frozen BK101.out 6; have hfz40_7 := blk_frozen BK101.out 7) | (go_at_call 31; (with_reducible refine (orders_name.calls a0_1 true _ A4.out).mono ?_); rintro e w41 ⟨rfl, hb⟩; have n0_ := Aside0.mk (blk_below (g := gb101) (o := .cells #[.int .i64 a0_0, .string a0_1, .string a0_2, .int .i64 a0_3, .int .i64 a0_4, .int .i64 a0_5, .int .i64 a0_6, .bool a0_7] 24 (0, 0)) (by (with_reducible repeat (first | refine blk_drewN ?_ _ | refine blk_drew ?_ | refine blk_alloc ?_ _)); exact BK101.out) hb); have n1_ := Aside0.mk (below_step (by repeat (first | (with_reducible first | exact HB.out | apply below_alloc | apply pw_below_drewN | apply below_drew1 | refine below_set ?_ GE101.out) | exact HB.out)) hb); clear BK101; clear HB; have BK101 := n0_; have HB := n1_; clear n0_ n1_; (try clear hb); (try clear hb2); (try clear hk); (try clear hi); have hcz42_0 : w41.cell? ⟨gb101, 0, none⟩ = some (.int .i64 a0_0) := (blk_cell BK101.out 0).trans rfl; have hcz42_1 : w41.cell? ⟨gb101, 1, none⟩ = some (.string a0_1) := (blk_cell BK101.out 1).trans rfl; have hcz42_2 : w41.cell? ⟨gb101, 2, none⟩ = some (.string a0_2) := (blk_cell BK101.out 2).trans rfl; have hcz42_3 : w41.cell? ⟨gb101, 3, none⟩ = some (.int .i64 a0_3) := (blk_cell BK101.out 3).trans rfl; have hcz42_4 : w41.cell? ⟨gb101, 4, none⟩ = some (.int .i64 a0_4) := (blk_cell BK101.out 4).trans rfl; have hcz42_5 : w41.cell? ⟨gb101, 5, none⟩ = some (.int .i64 a0_5) := (blk_cell BK101.out 5).trans rfl; have hcz42_6 : w41.cell? ⟨gb101, 6, none⟩ = some (.int .i64 a0_6) := (blk_cell BK101.out 6).trans rfl; have hcz42_7 : w41.cell? ⟨gb101, 7, none⟩ = some (.bool a0_7) := (blk_cell BK101.out 7).trans rfl; have hfz42_0 := blk_frozen BK101.out 0; have hfz42_1 := blk_frozen BK101.out 1; have hfz42_2 := blk_frozen BK101.out 2; have hfz42_3 := blk_frozen BK101.out 3; have hfz42_4 := blk_frozen BK101.out 4; have hfz42_5 := blk_frozen BK101.out 5; have hfz42_6 := blk_frozen BK101.out 6; have hfz42_7 := blk_frozen BK101.out 7) | (go_at_call 31; (with_reducible refine (orders_name.calls a0_2 false _ A6.out).mono ?_); rintro e w43 ⟨rfl, hb⟩; have n0_ := Aside0.mk (blk_below (g := gb101) (o := .cells #[.int .i64 a0_0, .string a0_1, .string a0_2, .int .i64 a0_3, .int .i64 a0_4, .int .i64 a0_5, .int .i64 a0_6, .bool a0_7] 24 (0, 0)) (by (with_reducible repeat (first | refine blk_drewN ?_ _ | refine blk_drew ?_ | refine blk_alloc ?_ _)); exact BK101.out) hb); have n1_ := Aside0.mk (below_step (by repeat (first | (with_reducible first | exact HB.out | apply below_alloc | apply pw_below_drewN | apply below_drew1 | refine below_set ?_ GE101.out) | exact HB.out)) hb); clear BK101; clear HB; have BK101 := n0_; have HB := n1_; clear n0_ n1_; (try clear hb); (try clear hb2); (try clear hk); (try clear hi)))
          go_ret
          exact ⟨by first | rfl | (simp [errW_none, errW_some] <;> rfl) | (simp [*, errW_none, errW_some] <;> rfl), by repeat (first | (with_reducible first | exact HB.out | apply below_alloc | apply pw_below_drewN | apply below_drew1 | refine below_set ?_ GE101.out) | exact HB.out)⟩
      · replace c5 := Bool.eq_false_iff.mpr c5
        subst c5
        have H1 : (some false) = some r := by rw [if_neg (show ¬ (false = true) by decide)] at H; exact H
        clear H
        have H := H1
        clear H1
        obtain rfl := Option.some.inj H
        go_enter Try.func20, Try.ntmps20
        go_wp2_with (first | ((with_reducible refine gate_dst (N := 1) rfl ?_); refine box_event ?hg (N := 1) ?hd (cs := #[.int .i64 a0_0, .string a0_1, .string a0_2, .int .i64 a0_3, .int .i64 a0_4, .int .i64 a0_5, .int .i64 a0_6, .bool a0_7]) (t := 24) ?hr ?_; (case hd => rfl); (case hg => rfl); (case hr => first | (go_simp; done) | (go_simp; rfl)); intro gb101 hg w44 hbox hb; have n0_ := Aside0.mk (below_step (by repeat (first | (with_reducible first | exact HB.out | apply below_alloc | apply pw_below_drewN | apply below_drew1) | exact HB.out)) hb); have n1_ := Aside0.mk (hbox); have n2_ := Aside0.mk ((by rw [hg]; exact (below_size (by repeat (first | (with_reducible first | exact HB.out | apply below_alloc | apply pw_below_drewN | apply below_drew1) | exact HB.out))) : w.heap.size ≤ gb101)); have n3_ := Aside0.mk ((by rw [hg]; exact (below_size (by repeat (first | (with_reducible first | exact HB.out | apply below_alloc | apply pw_below_drewN | apply below_drew1) | exact HB.out))) : w.heap.size ≤ gb101)); clear HB; have HB := n0_; have BK101 := n1_; have GW101 := n2_; have GE101 := n3_; clear n0_ n1_ n2_ n3_; clear hb hbox hg; have hcz45_0 : w44.cell? ⟨gb101, 0, none⟩ = some (.int .i64 a0_0) := (blk_cell BK101.out 0).trans rfl; have hcz45_1 : w44.cell? ⟨gb101, 1, none⟩ = some (.string a0_1) := (blk_cell BK101.out 1).trans rfl; have hcz45_2 : w44.cell? ⟨gb101, 2, none⟩ = some (.string a0_2) := (blk_cell BK101.out 2).trans rfl; have hcz45_3 : w44.cell? ⟨gb101, 3, none⟩ = some (.int .i64 a0_3) := (blk_cell BK101.out 3).trans rfl; have hcz45_4 : w44.cell? ⟨gb101, 4, none⟩ = some (.int .i64 a0_4) := (blk_cell BK101.out 4).trans rfl; have hcz45_5 : w44.cell? ⟨gb101, 5, none⟩ = some (.int .i64 a0_5) := (blk_cell BK101.out 5).trans rfl; have hcz45_6 : w44.cell? ⟨gb101, 6, none⟩ = some (.int .i64 a0_6) := (blk_cell BK101.out 6).trans rfl; have hcz45_7 : w44.cell? ⟨gb101, 7, none⟩ = some (.bool a0_7) := (blk_cell BK101.out 7).trans rfl; have hfz45_0 := blk_frozen BK101.out 0; have hfz45_1 := blk_frozen BK101.out 1; have hfz45_2 := blk_frozen BK101.out 2; have hfz45_3 := blk_frozen BK101.out 3; have hfz45_4 := blk_frozen BK101.out 4; have hfz45_5 := blk_frozen BK101.out 5; have hfz45_6 := blk_frozen BK101.out 6; have hfz45_7 := blk_frozen BK101.out 7) | (go_at_call 31; (with_reducible refine (orders_name.calls a0_1 false _ A4.out).mono ?_); rintro e w46 ⟨rfl, hb⟩; have n0_ := Aside0.mk (blk_below (g := gb101) (o := .cells #[.int .i64 a0_0, .string a0_1, .string a0_2, .int .i64 a0_3, .int .i64 a0_4, .int .i64 a0_5, .int .i64 a0_6, .bool a0_7] 24 (0, 0)) (by (with_reducible repeat (first | refine blk_drewN ?_ _ | refine blk_drew ?_ | refine blk_alloc ?_ _)); exact BK101.out) hb); have n1_ := Aside0.mk (below_step (by repeat (first | (with_reducible first | exact HB.out | apply below_alloc | apply pw_below_drewN | apply below_drew1 | refine below_set ?_ GE101.out) | exact HB.out)) hb); clear BK101; clear HB; have BK101 := n0_; have HB := n1_; clear n0_ n1_; (try clear hb); (try clear hb2); (try clear hk); (try clear hi)))
        go_ret
        exact ⟨by first | rfl | (simp [errW_none, errW_some] <;> rfl) | (simp [*, errW_none, errW_some] <;> rfl), by repeat (first | (with_reducible first | exact HB.out | apply below_alloc | apply pw_below_drewN | apply below_drew1 | refine below_set ?_ GE101.out) | exact HB.out)⟩
    · rw [if_neg c3] at H
      have c3b0 : decide (a0_0 ≤ 1000000) = false := decide_eq_false c3
      clear c3
      obtain rfl := Option.some.inj H
      go_enter Try.func20, Try.ntmps20
      go_wp2_with (first | ((with_reducible refine gate_dst (N := 1) rfl ?_); refine box_event ?hg (N := 1) ?hd (cs := #[.int .i64 a0_0, .string a0_1, .string a0_2, .int .i64 a0_3, .int .i64 a0_4, .int .i64 a0_5, .int .i64 a0_6, .bool a0_7]) (t := 24) ?hr ?_; (case hd => rfl); (case hg => rfl); (case hr => first | (go_simp; done) | (go_simp; rfl)); intro gb101 hg w47 hbox hb; have n0_ := Aside0.mk (below_step (by repeat (first | (with_reducible first | exact HB.out | apply below_alloc | apply pw_below_drewN | apply below_drew1) | exact HB.out)) hb); have n1_ := Aside0.mk (hbox); have n2_ := Aside0.mk ((by rw [hg]; exact (below_size (by repeat (first | (with_reducible first | exact HB.out | apply below_alloc | apply pw_below_drewN | apply below_drew1) | exact HB.out))) : w.heap.size ≤ gb101)); have n3_ := Aside0.mk ((by rw [hg]; exact (below_size (by repeat (first | (with_reducible first | exact HB.out | apply below_alloc | apply pw_below_drewN | apply below_drew1) | exact HB.out))) : w.heap.size ≤ gb101)); clear HB; have HB := n0_; have BK101 := n1_; have GW101 := n2_; have GE101 := n3_; clear n0_ n1_ n2_ n3_; clear hb hbox hg; have hcz48_0 : w47.cell? ⟨gb101, 0, none⟩ = some (.int .i64 a0_0) := (blk_cell BK101.out 0).trans rfl; have hcz48_1 : w47.cell? ⟨gb101, 1, none⟩ = some (.string a0_1) := (blk_cell BK101.out 1).trans rfl; have hcz48_2 : w47.cell? ⟨gb101, 2, none⟩ = some (.string a0_2) := (blk_cell BK101.out 2).trans rfl; have hcz48_3 : w47.cell? ⟨gb101, 3, none⟩ = some (.int .i64 a0_3) := (blk_cell BK101.out 3).trans rfl; have hcz48_4 : w47.cell? ⟨gb101, 4, none⟩ = some (.int .i64 a0_4) := (blk_cell BK101.out 4).trans rfl; have hcz48_5 : w47.cell? ⟨gb101, 5, none⟩ = some (.int .i64 a0_5) := (blk_cell BK101.out 5).trans rfl; have hcz48_6 : w47.cell? ⟨gb101, 6, none⟩ = some (.int .i64 a0_6) := (blk_cell BK101.out 6).trans rfl; have hcz48_7 : w47.cell? ⟨gb101, 7, none⟩ = some (.bool a0_7) := (blk_cell BK101.out 7).trans rfl; have hfz48_0 := blk_frozen BK101.out 0; have hfz48_1 := blk_frozen BK101.out 1; have hfz48_2 := blk_frozen BK101.out 2; have hfz48_3 := blk_frozen BK101.out 3; have hfz48_4 := blk_frozen BK101.out 4; have hfz48_5 := blk_frozen BK101.out 5; have hfz48_6 := blk_frozen BK101.out 6; have hfz48_7 := blk_frozen BK101.out 7))
      go_ret
      exact ⟨by first | rfl | (simp [errW_none, errW_some] <;> rfl) | (simp [*, errW_none, errW_some] <;> rfl), by repeat (first | (with_reducible first | exact HB.out | apply below_alloc | apply pw_below_drewN | apply below_drew1 | refine below_set ?_ GE101.out) | exact HB.out)⟩
  · rw [if_neg c2] at H
    have c2b0 : decide (1 ≤ a0_0) = false := decide_eq_false c2
    clear c2
    obtain rfl := Option.some.inj H
    go_enter Try.func20, Try.ntmps20
    go_wp2_with (first | ((with_reducible refine gate_dst (N := 1) rfl ?_); refine box_event ?hg (N := 1) ?hd (cs := #[.int .i64 a0_0, .string a0_1, .string a0_2, .int .i64 a0_3, .int .i64 a0_4, .int .i64 a0_5, .int .i64 a0_6, .bool a0_7]) (t := 24) ?hr ?_; (case hd => rfl); (case hg => rfl); (case hr => first | (go_simp; done) | (go_simp; rfl)); intro gb101 hg w49 hbox hb; have n0_ := Aside0.mk (below_step (by repeat (first | (with_reducible first | exact HB.out | apply below_alloc | apply pw_below_drewN | apply below_drew1) | exact HB.out)) hb); have n1_ := Aside0.mk (hbox); have n2_ := Aside0.mk ((by rw [hg]; exact (below_size (by repeat (first | (with_reducible first | exact HB.out | apply below_alloc | apply pw_below_drewN | apply below_drew1) | exact HB.out))) : w.heap.size ≤ gb101)); have n3_ := Aside0.mk ((by rw [hg]; exact (below_size (by repeat (first | (with_reducible first | exact HB.out | apply below_alloc | apply pw_below_drewN | apply below_drew1) | exact HB.out))) : w.heap.size ≤ gb101)); clear HB; have HB := n0_; have BK101 := n1_; have GW101 := n2_; have GE101 := n3_; clear n0_ n1_ n2_ n3_; clear hb hbox hg; have hcz50_0 : w49.cell? ⟨gb101, 0, none⟩ = some (.int .i64 a0_0) := (blk_cell BK101.out 0).trans rfl; have hcz50_1 : w49.cell? ⟨gb101, 1, none⟩ = some (.string a0_1) := (blk_cell BK101.out 1).trans rfl; have hcz50_2 : w49.cell? ⟨gb101, 2, none⟩ = some (.string a0_2) := (blk_cell BK101.out 2).trans rfl; have hcz50_3 : w49.cell? ⟨gb101, 3, none⟩ = some (.int .i64 a0_3) := (blk_cell BK101.out 3).trans rfl; have hcz50_4 : w49.cell? ⟨gb101, 4, none⟩ = some (.int .i64 a0_4) := (blk_cell BK101.out 4).trans rfl; have hcz50_5 : w49.cell? ⟨gb101, 5, none⟩ = some (.int .i64 a0_5) := (blk_cell BK101.out 5).trans rfl; have hcz50_6 : w49.cell? ⟨gb101, 6, none⟩ = some (.int .i64 a0_6) := (blk_cell BK101.out 6).trans rfl; have hcz50_7 : w49.cell? ⟨gb101, 7, none⟩ = some (.bool a0_7) := (blk_cell BK101.out 7).trans rfl; have hfz50_0 := blk_frozen BK101.out 0; have hfz50_1 := blk_frozen BK101.out 1; have hfz50_2 := blk_frozen BK101.out 2; have hfz50_3 := blk_frozen BK101.out 3; have hfz50_4 := blk_frozen BK101.out 4; have hfz50_5 := blk_frozen BK101.out 5; have hfz50_6 := blk_frozen BK101.out 6; have hfz50_7 := blk_frozen BK101.out 7))
    go_ret
    exact ⟨by first | rfl | (simp [errW_none, errW_some] <;> rfl) | (simp [*, errW_none, errW_some] <;> rfl), by repeat (first | (with_reducible first | exact HB.out | apply below_alloc | apply pw_below_drewN | apply below_drew1 | refine below_set ?_ GE101.out) | exact HB.out)⟩
def orders_first.l0 : Nat → List Int → Int → Int → Option (Int)
  | 0, _, _, _ => none
  | k + 1, x5, x6, x7 => if x7 < x6 then (if 0 ≤ x7 then (if x7 < (x5.length : Int) then (if (rd x5 x7) = 0 then (orders_first.l0 k x5 x6 (wrap64 (x7 + 1))) else (some (rd x5 x7))) else (none)) else (none)) else (some 0)
def orders_first.f (k : Nat) (l0 : List Int) : Option (Int) := orders_first.l0 k l0 (l0.length : Int) 0
theorem orders_first.mono_l : ∀ k, (∀ y0 y1 y2, LeO (orders_first.l0 k y0 y1 y2) (orders_first.l0 (k + 1) y0 y1 y2))
  | 0 => fun _ _ _ r h => by simp [orders_first.l0] at h
  | k + 1 => by
    have ih0 := orders_first.mono_l k
    · intro y0 y1 y2
      unfold orders_first.l0
      repeat' first
      | (with_reducible exact ih0 _ _ _)
      | (with_reducible exact LeO.refl _)
      | (with_reducible exact LeO.none _)
      | (with_reducible refine LeO.ite ?_ ?_)
      | (with_reducible refine LeO.bind ?_ (fun _ => ?_))
      | exact ih0 _ _ _
      | exact LeO.none _
      | refine LeO.ite ?_ ?_
      | refine LeO.bind ?_ (fun _ => ?_)
theorem orders_first.mono : ∀ a0 k, LeO (orders_first.f k a0) (orders_first.f (k + 1) a0) := by
  intro a0 k
  have ih0 := orders_first.mono_l k
  unfold orders_first.f
  repeat' first
      | (with_reducible exact ih0 _ _ _)
      | (with_reducible exact LeO.refl _)
      | (with_reducible exact LeO.none _)
      | (with_reducible refine LeO.ite ?_ ?_)
      | (with_reducible refine LeO.bind ?_ (fun _ => ?_))
      | exact ih0 _ _ _
      | exact LeO.none _
      | refine LeO.ite ?_ ?_
      | refine LeO.bind ?_ (fun _ => ?_)
set_option maxHeartbeats 8000000 in
set_option maxRecDepth 100000 in
theorem orders_first.calls (k : Nat) (A0 : Option Addr) (c0 : Nat) (l0 : List Int) (r : Int) (w : World) (hr0 : Kd.C (Kd.int .i64) w A0 l0.length l0) (hc0 : l0.length ≤ c0) (h : orders_first.f k l0 = some r) :
    Calls Try.prog 28 #[.slice A0 l0.length c0] w fun e w' => e = .returned (.int .i64 r) ∧ Drawn0 w w' := by
  have HR0 := Aside0.mk hr0
  have HC0 := Aside0.mk hc0
  clear hr0 hc0
  have H : (orders_first.l0 k l0 (l0.length : Int) 0) = some r := h
  clear h
  have H' := Aside0.mk H
  clear H
  go_enter Try.func28, Try.ntmps28
  go_wp2
  go_loopg [7] k (fun kq v7 w' => ∃ (x7_1 : Int), v7 = .int .i64 x7_1 ∧ Aside0 (orders_first.l0 kq l0 (l0.length : Int) x7_1 = some r) ∧ Aside0 (kq ≤ k) ∧ Drawn0 w w')
  case atStart => exact ⟨(0), (by first | rfl | (simp; done) | (simp [*]; done)), H', ⟨Nat.le_refl _⟩, by repeat (first | exact Drawn0.refl _ | apply Drawn0.step)⟩
  case round =>
    clear H'
    obtain ⟨x7_1, rfl, HA, HK1, ⟨m1, rfl⟩⟩ := hrel
    cases gk with
    | zero => exact absurd HA.out (by simp [orders_first.l0])
    | succ k1 =>
      have H := HA.out
      clear HA
      simp only [orders_first.l0] at H
      by_cases c2 : x7_1 < (l0.length : Int)
      · rw [if_pos c2] at H
        have c2b0 : decide (x7_1 < (l0.length : Int)) = true := decide_eq_true c2
        clear c2
        by_cases c3 : 0 ≤ x7_1
        · rw [if_pos c3] at H
          have c3b0 : decide (0 ≤ x7_1) = true := decide_eq_true c3
          clear c3
          by_cases c4 : x7_1 < (l0.length : Int)
          · rw [if_pos c4] at H
            have c4b0 : decide (x7_1 < (l0.length : Int)) = true := decide_eq_true c4
            clear c4
            by_cases c5 : (rd l0 x7_1) = 0
            · rw [if_pos c5] at H
              have c5b0 : ((rd l0 x7_1) == 0) = true := beq_iff_eq.mpr c5
              have c5b1 : ((rd l0 x7_1) != 0) = false := bne_eq_false_iff_eq.mpr c5
              clear c5
              have H' := Aside0.mk H
              clear H
              have p108 : 0 ≤ (x7_1 : Int) := of_decide_eq_true (by first | (with_reducible assumption) | assumption)
              have q108 : x7_1 < (l0.length : Int) := of_decide_eq_true (by first | (with_reducible assumption) | assumption)
              obtain ⟨ad108, e108, hx108_0⟩ := Kd.at_int HR0.out x7_1 p108 q108
              cases e108
              replace p108 := eq_true p108
              replace q108 := eq_true q108
              go_wp2
              go_roundg k1
              case measure => have := HK1.out; omega
              case rel => exact ⟨(wrap64 (x7_1 + 1)), (by first | rfl | (simp; done) | (simp [*]; done)), H', ⟨by have := HK1.out; omega⟩, by repeat (first | exact Drawn0.refl _ | apply Drawn0.step)⟩
            · rw [if_neg c5] at H
              have c5b0 : ((rd l0 x7_1) == 0) = false := beq_eq_false_iff_ne.mpr c5
              have c5b1 : ((rd l0 x7_1) != 0) = true := bne_iff_ne.mpr c5
              obtain rfl := Option.some.inj H
              have p108 : 0 ≤ (x7_1 : Int) := of_decide_eq_true (by first | (with_reducible assumption) | assumption)
              have q108 : x7_1 < (l0.length : Int) := of_decide_eq_true (by first | (with_reducible assumption) | assumption)
              obtain ⟨ad108, e108, hx108_0⟩ := Kd.at_int HR0.out x7_1 p108 q108
              cases e108
              replace p108 := eq_true p108
              replace q108 := eq_true q108
              go_wp2
              go_ret
              exact ⟨by first | rfl | (simp; done) | (simp [*]; done), by repeat (first | exact Drawn0.refl _ | apply Drawn0.step)⟩
          · rw [if_neg c4] at H
            exact absurd H (by simp)
        · rw [if_neg c3] at H
          exact absurd H (by simp)
      · rw [if_neg c2] at H
        have c2b0 : decide (x7_1 < (l0.length : Int)) = false := decide_eq_false c2
        clear c2
        obtain rfl := Option.some.inj H
        go_wp2
        go_ret
        exact ⟨by first | rfl | (simp; done) | (simp [*]; done), by repeat (first | exact Drawn0.refl _ | apply Drawn0.step)⟩
def cmp_isNaN_int.f (a0 : Int) : Option (Bool) := some (a0 != a0)
set_option maxHeartbeats 8000000 in
set_option maxRecDepth 100000 in
theorem cmp_isNaN_int.calls (a0 : Int) (r : Bool) (w : World) (h : cmp_isNaN_int.f a0 = some r) :
    Calls Try.prog 37 #[.int .i64 a0] w fun e w' => e = .returned (.bool r) ∧ Drawn0 w w' := by
  have H : (some (a0 != a0)) = some r := h
  clear h
  obtain rfl := Option.some.inj H
  go_enter Try.func37, Try.ntmps37
  go_wp2
  go_ret
  exact ⟨by first | rfl | (simp; done) | (simp [*]; done), by repeat (first | exact Drawn0.refl _ | apply Drawn0.step)⟩
def cmp_Compare_int.f (a0 : Int) (a1 : Int) : Option (Int) := (cmp_isNaN_int.f a0).bind fun t109 => ((cmp_isNaN_int.f a1).bind fun t110 => (if t109 = true then (if t110 = true then (some 0) else (some (-1))) else (if t110 = true then (some 1) else (if a0 < a1 then (some (-1)) else (if a0 > a1 then (some 1) else (some 0))))))
set_option maxHeartbeats 8000000 in
set_option maxRecDepth 100000 in
theorem cmp_Compare_int.calls (a0 : Int) (a1 : Int) (r : Int) (w : World) (h : cmp_Compare_int.f a0 a1 = some r) :
    Calls Try.prog 29 #[.int .i64 a0, .int .i64 a1] w fun e w' => e = .returned (.int .i64 r) ∧ Drawn0 w w' := by
  have H : ((cmp_isNaN_int.f a0).bind fun t109 => ((cmp_isNaN_int.f a1).bind fun t110 => (if t109 = true then (if t110 = true then (some 0) else (some (-1))) else (if t110 = true then (some 1) else (if a0 < a1 then (some (-1)) else (if a0 > a1 then (some 1) else (some 0))))))) = some r := h
  clear h
  replace H := Option.bind_eq_some_iff.mp H
  obtain ⟨t109, A30, H⟩ := H
  replace H : ((cmp_isNaN_int.f a1).bind fun t110 => (if t109 = true then (if t110 = true then (some 0) else (some (-1))) else (if t110 = true then (some 1) else (if a0 < a1 then (some (-1)) else (if a0 > a1 then (some 1) else (some 0)))))) = some r := H
  have A3 := Aside0.mk A30
  clear A30
  replace H := Option.bind_eq_some_iff.mp H
  obtain ⟨t110, A40, H⟩ := H
  replace H : (if t109 = true then (if t110 = true then (some 0) else (some (-1))) else (if t110 = true then (some 1) else (if a0 < a1 then (some (-1)) else (if a0 > a1 then (some 1) else (some 0))))) = some r := H
  have A4 := Aside0.mk A40
  clear A40
  by_cases c5 : t109 = true
  · subst c5
    have H1 : (if t110 = true then (some 0) else (some (-1))) = some r := by rw [if_pos rfl] at H; exact H
    clear H
    have H := H1
    clear H1
    by_cases c6 : t110 = true
    · subst c6
      have H1 : (some 0) = some r := by rw [if_pos rfl] at H; exact H
      clear H
      have H := H1
      clear H1
      obtain rfl := Option.some.inj H
      go_enter Try.func29, Try.ntmps29
      go_wp2_with (first | ((with_reducible refine gate_callee (f := 37) rfl ?_); refine goesL_ (some 8) rfl rfl Try.func37 (by kernel_rfl) rfl #[.int .i64 a0] rfl (by (try simp only [List.map_toArray, List.map_cons, List.map_nil]); first | done | rfl | (simp only [List.length_drop, List.length_take]; rfl)) ?_; (with_reducible refine (cmp_isNaN_int.calls a0 true _ A3.out).mono ?_); rintro e w' ⟨rfl, ⟨nd, rfl⟩⟩; refine ⟨_, rfl, ?_⟩) | ((with_reducible refine gate_callee (f := 37) rfl ?_); refine goesL_ (some 10) rfl rfl Try.func37 (by kernel_rfl) rfl #[.int .i64 a1] rfl (by (try simp only [List.map_toArray, List.map_cons, List.map_nil]); first | done | rfl | (simp only [List.length_drop, List.length_take]; rfl)) ?_; (with_reducible refine (cmp_isNaN_int.calls a1 true _ A4.out).mono ?_); rintro e w' ⟨rfl, ⟨nd, rfl⟩⟩; refine ⟨_, rfl, ?_⟩))
      go_ret
      exact ⟨by first | rfl | (simp; done) | (simp [*]; done), by repeat (first | exact Drawn0.refl _ | apply Drawn0.step)⟩
    · replace c6 := Bool.eq_false_iff.mpr c6
      subst c6
      have H1 : (some (-1)) = some r := by rw [if_neg (show ¬ (false = true) by decide)] at H; exact H
      clear H
      have H := H1
      clear H1
      obtain rfl := Option.some.inj H
      go_enter Try.func29, Try.ntmps29
      go_wp2_with (first | ((with_reducible refine gate_callee (f := 37) rfl ?_); refine goesL_ (some 8) rfl rfl Try.func37 (by kernel_rfl) rfl #[.int .i64 a0] rfl (by (try simp only [List.map_toArray, List.map_cons, List.map_nil]); first | done | rfl | (simp only [List.length_drop, List.length_take]; rfl)) ?_; (with_reducible refine (cmp_isNaN_int.calls a0 true _ A3.out).mono ?_); rintro e w' ⟨rfl, ⟨nd, rfl⟩⟩; refine ⟨_, rfl, ?_⟩) | ((with_reducible refine gate_callee (f := 37) rfl ?_); refine goesL_ (some 10) rfl rfl Try.func37 (by kernel_rfl) rfl #[.int .i64 a1] rfl (by (try simp only [List.map_toArray, List.map_cons, List.map_nil]); first | done | rfl | (simp only [List.length_drop, List.length_take]; rfl)) ?_; (with_reducible refine (cmp_isNaN_int.calls a1 false _ A4.out).mono ?_); rintro e w' ⟨rfl, ⟨nd, rfl⟩⟩; refine ⟨_, rfl, ?_⟩))
      go_ret
      exact ⟨by first | rfl | (simp; done) | (simp [*]; done), by repeat (first | exact Drawn0.refl _ | apply Drawn0.step)⟩
  · replace c5 := Bool.eq_false_iff.mpr c5
    subst c5
    have H1 : (if t110 = true then (some 1) else (if a0 < a1 then (some (-1)) else (if a0 > a1 then (some 1) else (some 0)))) = some r := by rw [if_neg (show ¬ (false = true) by decide)] at H; exact H
    clear H
    have H := H1
    clear H1
    by_cases c7 : t110 = true
    · subst c7
      have H1 : (some 1) = some r := by rw [if_pos rfl] at H; exact H
      clear H
      have H := H1
      clear H1
      obtain rfl := Option.some.inj H
      go_enter Try.func29, Try.ntmps29
      go_wp2_with (first | ((with_reducible refine gate_callee (f := 37) rfl ?_); refine goesL_ (some 8) rfl rfl Try.func37 (by kernel_rfl) rfl #[.int .i64 a0] rfl (by (try simp only [List.map_toArray, List.map_cons, List.map_nil]); first | done | rfl | (simp only [List.length_drop, List.length_take]; rfl)) ?_; (with_reducible refine (cmp_isNaN_int.calls a0 false _ A3.out).mono ?_); rintro e w' ⟨rfl, ⟨nd, rfl⟩⟩; refine ⟨_, rfl, ?_⟩) | ((with_reducible refine gate_callee (f := 37) rfl ?_); refine goesL_ (some 10) rfl rfl Try.func37 (by kernel_rfl) rfl #[.int .i64 a1] rfl (by (try simp only [List.map_toArray, List.map_cons, List.map_nil]); first | done | rfl | (simp only [List.length_drop, List.length_take]; rfl)) ?_; (with_reducible refine (cmp_isNaN_int.calls a1 true _ A4.out).mono ?_); rintro e w' ⟨rfl, ⟨nd, rfl⟩⟩; refine ⟨_, rfl, ?_⟩))
      go_ret
      exact ⟨by first | rfl | (simp; done) | (simp [*]; done), by repeat (first | exact Drawn0.refl _ | apply Drawn0.step)⟩
    · replace c7 := Bool.eq_false_iff.mpr c7
      subst c7
      have H1 : (if a0 < a1 then (some (-1)) else (if a0 > a1 then (some 1) else (some 0))) = some r := by rw [if_neg (show ¬ (false = true) by decide)] at H; exact H
      clear H
      have H := H1
      clear H1
      by_cases c8 : a0 < a1
      · rw [if_pos c8] at H
        have c8b0 : decide (a0 < a1) = true := decide_eq_true c8
        clear c8
        obtain rfl := Option.some.inj H
        go_enter Try.func29, Try.ntmps29
        go_wp2_with (first | ((with_reducible refine gate_callee (f := 37) rfl ?_); refine goesL_ (some 8) rfl rfl Try.func37 (by kernel_rfl) rfl #[.int .i64 a0] rfl (by (try simp only [List.map_toArray, List.map_cons, List.map_nil]); first | done | rfl | (simp only [List.length_drop, List.length_take]; rfl)) ?_; (with_reducible refine (cmp_isNaN_int.calls a0 false _ A3.out).mono ?_); rintro e w' ⟨rfl, ⟨nd, rfl⟩⟩; refine ⟨_, rfl, ?_⟩) | ((with_reducible refine gate_callee (f := 37) rfl ?_); refine goesL_ (some 10) rfl rfl Try.func37 (by kernel_rfl) rfl #[.int .i64 a1] rfl (by (try simp only [List.map_toArray, List.map_cons, List.map_nil]); first | done | rfl | (simp only [List.length_drop, List.length_take]; rfl)) ?_; (with_reducible refine (cmp_isNaN_int.calls a1 false _ A4.out).mono ?_); rintro e w' ⟨rfl, ⟨nd, rfl⟩⟩; refine ⟨_, rfl, ?_⟩))
        go_ret
        exact ⟨by first | rfl | (simp; done) | (simp [*]; done), by repeat (first | exact Drawn0.refl _ | apply Drawn0.step)⟩
      · rw [if_neg c8] at H
        have c8b0 : decide (a0 < a1) = false := decide_eq_false c8
        clear c8
        by_cases c9 : a0 > a1
        · rw [if_pos c9] at H
          have c9b0 : decide (a1 < a0) = true := decide_eq_true c9
          clear c9
          obtain rfl := Option.some.inj H
          go_enter Try.func29, Try.ntmps29
          go_wp2_with (first | ((with_reducible refine gate_callee (f := 37) rfl ?_); refine goesL_ (some 8) rfl rfl Try.func37 (by kernel_rfl) rfl #[.int .i64 a0] rfl (by (try simp only [List.map_toArray, List.map_cons, List.map_nil]); first | done | rfl | (simp only [List.length_drop, List.length_take]; rfl)) ?_; (with_reducible refine (cmp_isNaN_int.calls a0 false _ A3.out).mono ?_); rintro e w' ⟨rfl, ⟨nd, rfl⟩⟩; refine ⟨_, rfl, ?_⟩) | ((with_reducible refine gate_callee (f := 37) rfl ?_); refine goesL_ (some 10) rfl rfl Try.func37 (by kernel_rfl) rfl #[.int .i64 a1] rfl (by (try simp only [List.map_toArray, List.map_cons, List.map_nil]); first | done | rfl | (simp only [List.length_drop, List.length_take]; rfl)) ?_; (with_reducible refine (cmp_isNaN_int.calls a1 false _ A4.out).mono ?_); rintro e w' ⟨rfl, ⟨nd, rfl⟩⟩; refine ⟨_, rfl, ?_⟩))
          go_ret
          exact ⟨by first | rfl | (simp; done) | (simp [*]; done), by repeat (first | exact Drawn0.refl _ | apply Drawn0.step)⟩
        · rw [if_neg c9] at H
          have c9b0 : decide (a1 < a0) = false := decide_eq_false c9
          clear c9
          obtain rfl := Option.some.inj H
          go_enter Try.func29, Try.ntmps29
          go_wp2_with (first | ((with_reducible refine gate_callee (f := 37) rfl ?_); refine goesL_ (some 8) rfl rfl Try.func37 (by kernel_rfl) rfl #[.int .i64 a0] rfl (by (try simp only [List.map_toArray, List.map_cons, List.map_nil]); first | done | rfl | (simp only [List.length_drop, List.length_take]; rfl)) ?_; (with_reducible refine (cmp_isNaN_int.calls a0 false _ A3.out).mono ?_); rintro e w' ⟨rfl, ⟨nd, rfl⟩⟩; refine ⟨_, rfl, ?_⟩) | ((with_reducible refine gate_callee (f := 37) rfl ?_); refine goesL_ (some 10) rfl rfl Try.func37 (by kernel_rfl) rfl #[.int .i64 a1] rfl (by (try simp only [List.map_toArray, List.map_cons, List.map_nil]); first | done | rfl | (simp only [List.length_drop, List.length_take]; rfl)) ?_; (with_reducible refine (cmp_isNaN_int.calls a1 false _ A4.out).mono ?_); rintro e w' ⟨rfl, ⟨nd, rfl⟩⟩; refine ⟨_, rfl, ?_⟩))
          go_ret
          exact ⟨by first | rfl | (simp; done) | (simp [*]; done), by repeat (first | exact Drawn0.refl _ | apply Drawn0.step)⟩
end Go.Proofs.Ytgbcihbnaecejaa.Q

namespace Go.Proofs.Ytgbcihbnaecejaa.Q
open Go.RowKit Go.Proofs.YtgbcihbnaecejaaW.PrintWords Go.Proofs.YtgbcihbnaecejaaW.PrintLast Go.Proofs.YtgbcihbnaecejaaW.PrintMore
attribute [local go_sem] max2_int min2_int max_two min_two max_three min_three max_four min_four   -- for this text's walks alone
set_option linter.unusedVariables false
set_option linter.unusedSimpArgs false
def wageofficelaw31_short.f (l0 : List (S24)) : Option (Bool) := some (decide ((l0.length : Int) ≤ 403))
set_option maxHeartbeats 8000000 in
set_option maxRecDepth 100000 in
theorem wageofficelaw31_short.calls (A0 : Option Addr) (c0 : Nat) (l0 : List (S24)) (r : Bool) (w : World) (hr0 : Kd.C k24 w A0 l0.length l0) (hc0 : l0.length ≤ c0) (h : wageofficelaw31_short.f l0 = some r) :
    Calls Try.prog 11 #[.slice A0 l0.length c0] w fun e w' => e = .returned (.bool r) ∧ Drawn0 w w' := by
  have HR0 := Aside0.mk hr0
  have HC0 := Aside0.mk hc0
  clear hr0 hc0
  have H : (some (decide ((l0.length : Int) ≤ 403))) = some r := h
  clear h
  obtain rfl := Option.some.inj H
  go_enter Try.func11, Try.ntmps11
  go_wp2
  go_ret
  exact ⟨by first | rfl | (simp; done) | (simp [*]; done), by repeat (first | exact Drawn0.refl _ | apply Drawn0.step)⟩
def wageofficelaw31_order.f (a0 : Int) (a1 : Int) (a2 : Int) (a3 : Int) : Option (Int × ByteArray × ByteArray × Int × Int × Int × Int × Bool) := some (a0, (⟨#[97, 110, 110, 97]⟩ : ByteArray), (⟨#[98, 97, 110, 107]⟩ : ByteArray), a1, a2, 0, a3, false)
set_option maxHeartbeats 8000000 in
set_option maxRecDepth 100000 in
theorem wageofficelaw31_order.calls (a0 : Int) (a1 : Int) (a2 : Int) (a3 : Int) (r1 : Int) (r2 : ByteArray) (r3 : ByteArray) (r4 : Int) (r5 : Int) (r6 : Int) (r7 : Int) (r8 : Bool) (w : World) (h : wageofficelaw31_order.f a0 a1 a2 a3 = some (r1, r2, r3, r4, r5, r6, r7, r8)) :
    Calls Try.prog 19 #[.int .i64 a0, .int .i64 a1, .int .i64 a2, .int .i64 a3] w fun e w' => e = .returned (.agg #[.int .i64 r1, .string r2, .string r3, .int .i64 r4, .int .i64 r5, .int .i64 r6, .int .i64 r7, .bool r8]) ∧ Below w.heap.size w w' := by
  have hu24 := Try.underlying24
  have HB := Aside0.mk (Below.refl w.heap.size w)
  have H : (some (a0, (⟨#[97, 110, 110, 97]⟩ : ByteArray), (⟨#[98, 97, 110, 107]⟩ : ByteArray), a1, a2, 0, a3, false)) = some (r1, r2, r3, r4, r5, r6, r7, r8) := h
  clear h
  simp only [Option.some.injEq, Prod.mk.injEq] at H
  obtain ⟨rfl, rfl, rfl, rfl, rfl, rfl, rfl, rfl⟩ := H
  go_enter Try.func19, Try.ntmps19
  go_wp2_with (first | ((with_reducible refine gate_dst (N := 8) rfl ?_); refine box_event ?hg (N := 8) ?hd (cs := #[.int .i64 0, .string (⟨#[]⟩ : ByteArray), .string (⟨#[]⟩ : ByteArray), .int .i64 0, .int .i64 0, .int .i64 0, .int .i64 0, .bool false]) (t := 24) ?hr ?_; (case hd => rfl); (case hg => rfl); (case hr => first | (go_simp; done) | (go_simp; rfl)); intro gb111 hg w5 hbox hb; have n0_ := Aside0.mk (below_step (by repeat (first | (with_reducible first | exact HB.out | apply below_alloc | apply pw_below_drewN | apply below_drew1) | exact HB.out)) hb); have n1_ := Aside0.mk (hbox); have n2_ := Aside0.mk ((by rw [hg]; exact (below_size (by repeat (first | (with_reducible first | exact HB.out | apply below_alloc | apply pw_below_drewN | apply below_drew1) | exact HB.out))) : w.heap.size ≤ gb111)); have n3_ := Aside0.mk ((by rw [hg]; exact (below_size (by repeat (first | (with_reducible first | exact HB.out | apply below_alloc | apply pw_below_drewN | apply below_drew1) | exact HB.out))) : w.heap.size ≤ gb111)); clear HB; have HB := n0_; have BK111 := n1_; have GW111 := n2_; have GE111 := n3_; clear n0_ n1_ n2_ n3_; clear hb hbox hg; have hcz6_0 : w5.cell? ⟨gb111, 0, none⟩ = some (.int .i64 0) := (blk_cell BK111.out 0).trans rfl; have hcz6_1 : w5.cell? ⟨gb111, 1, none⟩ = some (.string (⟨#[]⟩ : ByteArray)) := (blk_cell BK111.out 1).trans rfl; have hcz6_2 : w5.cell? ⟨gb111, 2, none⟩ = some (.string (⟨#[]⟩ : ByteArray)) := (blk_cell BK111.out 2).trans rfl; have hcz6_3 : w5.cell? ⟨gb111, 3, none⟩ = some (.int .i64 0) := (blk_cell BK111.out 3).trans rfl; have hcz6_4 : w5.cell? ⟨gb111, 4, none⟩ = some (.int .i64 0) := (blk_cell BK111.out 4).trans rfl; have hcz6_5 : w5.cell? ⟨gb111, 5, none⟩ = some (.int .i64 0) := (blk_cell BK111.out 5).trans rfl; have hcz6_6 : w5.cell? ⟨gb111, 6, none⟩ = some (.int .i64 0) := (blk_cell BK111.out 6).trans rfl; have hcz6_7 : w5.cell? ⟨gb111, 7, none⟩ = some (.bool false) := (blk_cell BK111.out 7).trans rfl; have hfz6_0 := blk_frozen BK111.out 0; have hfz6_1 := blk_frozen BK111.out 1; have hfz6_2 := blk_frozen BK111.out 2; have hfz6_3 := blk_frozen BK111.out 3; have hfz6_4 := blk_frozen BK111.out 4; have hfz6_5 := blk_frozen BK111.out 5; have hfz6_6 := blk_frozen BK111.out 6; have hfz6_7 := blk_frozen BK111.out 7))
  refine bodyPost_ret (results_cell_row rfl _ _ gb111 24 #[.int .i64 a0, .string (⟨#[97, 110, 110, 97]⟩ : ByteArray), .string (⟨#[98, 97, 110, 107]⟩ : ByteArray), .int .i64 a1, .int .i64 a2, .int .i64 0, .int .i64 a3, .bool false] (0, 0) _ rfl (by (with_reducible repeat (first | refine blk_drewN ?_ _ | refine blk_drew ?_ | refine blk_alloc ?_ _)); refine blk_put (cs := #[.int .i64 a0, .string (⟨#[97, 110, 110, 97]⟩ : ByteArray), .string (⟨#[98, 97, 110, 107]⟩ : ByteArray), .int .i64 a1, .int .i64 a2, .int .i64 0, .int .i64 a3, .bool false]) ?_ 7 _ rfl; (with_reducible repeat (first | refine blk_drewN ?_ _ | refine blk_drew ?_ | refine blk_alloc ?_ _)); refine blk_put (cs := #[.int .i64 a0, .string (⟨#[97, 110, 110, 97]⟩ : ByteArray), .string (⟨#[98, 97, 110, 107]⟩ : ByteArray), .int .i64 a1, .int .i64 a2, .int .i64 0, .int .i64 0, .bool false]) ?_ 6 _ rfl; (with_reducible repeat (first | refine blk_drewN ?_ _ | refine blk_drew ?_ | refine blk_alloc ?_ _)); refine blk_put (cs := #[.int .i64 a0, .string (⟨#[97, 110, 110, 97]⟩ : ByteArray), .string (⟨#[98, 97, 110, 107]⟩ : ByteArray), .int .i64 a1, .int .i64 a2, .int .i64 0, .int .i64 0, .bool false]) ?_ 5 _ rfl; (with_reducible repeat (first | refine blk_drewN ?_ _ | refine blk_drew ?_ | refine blk_alloc ?_ _)); refine blk_put (cs := #[.int .i64 a0, .string (⟨#[97, 110, 110, 97]⟩ : ByteArray), .string (⟨#[98, 97, 110, 107]⟩ : ByteArray), .int .i64 a1, .int .i64 0, .int .i64 0, .int .i64 0, .bool false]) ?_ 4 _ rfl; (with_reducible repeat (first | refine blk_drewN ?_ _ | refine blk_drew ?_ | refine blk_alloc ?_ _)); refine blk_put (cs := #[.int .i64 a0, .string (⟨#[97, 110, 110, 97]⟩ : ByteArray), .string (⟨#[98, 97, 110, 107]⟩ : ByteArray), .int .i64 0, .int .i64 0, .int .i64 0, .int .i64 0, .bool false]) ?_ 3 _ rfl; (with_reducible repeat (first | refine blk_drewN ?_ _ | refine blk_drew ?_ | refine blk_alloc ?_ _)); refine blk_put (cs := #[.int .i64 a0, .string (⟨#[97, 110, 110, 97]⟩ : ByteArray), .string (⟨#[]⟩ : ByteArray), .int .i64 0, .int .i64 0, .int .i64 0, .int .i64 0, .bool false]) ?_ 2 _ rfl; (with_reducible repeat (first | refine blk_drewN ?_ _ | refine blk_drew ?_ | refine blk_alloc ?_ _)); refine blk_put (cs := #[.int .i64 a0, .string (⟨#[]⟩ : ByteArray), .string (⟨#[]⟩ : ByteArray), .int .i64 0, .int .i64 0, .int .i64 0, .int .i64 0, .bool false]) ?_ 1 _ rfl; (with_reducible repeat (first | refine blk_drewN ?_ _ | refine blk_drew ?_ | refine blk_alloc ?_ _)); refine blk_put (cs := #[.int .i64 0, .string (⟨#[]⟩ : ByteArray), .string (⟨#[]⟩ : ByteArray), .int .i64 0, .int .i64 0, .int .i64 0, .int .i64 0, .bool false]) ?_ 0 _ rfl; (with_reducible repeat (first | refine blk_drewN ?_ _ | refine blk_drew ?_ | refine blk_alloc ?_ _)); exact BK111.out) Try.underlying24 rfl (by kernel_rfl)) rfl ?_
  exact ⟨by first | rfl | (simp [errW_none, errW_some] <;> rfl) | (simp [*, errW_none, errW_some] <;> rfl), by repeat (first | (with_reducible first | exact HB.out | apply below_alloc | apply pw_below_drewN | apply below_drew1 | refine below_set ?_ GE111.out) | exact HB.out)⟩
end Go.Proofs.Ytgbcihbnaecejaa.Q

namespace Go.Proofs.YtgbcihbnaecejaaW.PrintLast
open Go Go.RowKit Go.Proofs.YtgbcihbnaecejaaW.PrintWords
section
variable {H : Type} {enc : TypeId × Value → H} {P : Program} {w : World} {spare : Nat → Bool} {held : Bool} {α : Type} {t e : TypeId}
def Opens (enc : TypeId × Value → H) (P : Program) (w : World) (spare : Nat → Bool) (held : Bool) (t : TypeId) (d : Kd α) (ok : α → Prop) : Prop :=
  ∀ (fuel : Nat) (cs : List Value) (x : DataW H × List MemPlace), DataW.trod enc P w 0 spare held fuel t cs = some x → ∃ y, d.K w y cs ∧ ok y
theorem Opens.int {k : IntKind} (ht : P.underlying t = some (.int k)) : Opens enc P w spare held t (Kd.int k) (fun x => (Lit.int k x).wf = true) := by
  intro fuel cs x h
  obtain ⟨n, rfl, _, hw⟩ := DataW.trod_int ht h
  exact ⟨n, rfl, hw⟩
theorem Opens.bool (ht : P.underlying t = some .bool) : Opens enc P w spare held t Kd.bool (fun _ => True) := by
  intro fuel cs x h
  obtain ⟨n, rfl, _⟩ := DataW.trod_bool ht h
  exact ⟨n, rfl, trivial⟩
theorem Opens.string (ht : P.underlying t = some .string) : Opens enc P w spare held t Kd.string (fun s => s.size ≤ maxLen) := by
  intro fuel cs x h
  obtain ⟨n, rfl, _, hl⟩ := DataW.trod_string ht h
  exact ⟨n, rfl, by simpa using hl⟩
theorem cut_ (cs : List Value) (o s : Nat) : cs.drop o = (cs.drop o).take s ++ cs.drop (o + s) := by
  rw [← List.drop_drop, List.take_append_drop]
theorem cut_last (cs : List Value) (o s : Nat) (h : cs.length = o + s) : cs.drop o = (cs.drop o).take s := (List.take_of_length_le (by rw [List.length_drop]; omega)).symm
theorem Opens.slice {d : Kd α} {ok : α → Prop} (ht : P.underlying t = some (.slice e)) (hsz : P.cellsOf e = d.sz) (hd : Opens enc P w spare held e d ok) :
    Opens enc P w spare held t (Kd.slice e d) (fun l => (∀ x ∈ l, ok x) ∧ l.length ≤ maxLen) := by
  intro fuel cs x hx
  rcases Go.Deep.open_slice ht hx with ⟨rfl, _⟩ | ⟨a, len, cap, m, n, D, Pl, rfl, hb, hl, hm, hmm, _, hel⟩
  · exact ⟨[], ⟨none, 0, rfl, Nat.le_refl _, Kd.C_nil d w⟩, by simp, by simp⟩
  · have hlm : len ≤ m := by rw [hmm]; split <;> omega
    have key : ∀ n', n' ≤ len → ∃ l : List α, l.length = n' ∧ ∀ i y, l[i]? = some y → (∃ c, c.length = d.sz ∧ d.K w y c ∧ ∀ j u, c[j]? = some u → w.cell? (a.add (i * d.sz + j)) = some u) ∧ ok y := by
      intro n'
      induction n' with
      | zero => exact fun _ => ⟨[], rfl, fun i y h => by simp at h⟩
      | succ n' ih =>
        intro hn
        obtain ⟨l, hll, hle⟩ := ih (by omega)
        obtain ⟨cs', h1, h2⟩ := hel n' (by omega)
        obtain ⟨y, hK, hok⟩ := hd _ _ _ h2
        obtain ⟨_, hcl, hcell⟩ := World.cells?_some h1
        refine ⟨l ++ [y], by rw [List.length_append, hll]; rfl, fun i z hz => ?_⟩
        rcases Nat.lt_or_ge i l.length with hi | hi
        · exact hle i z (by rwa [List.getElem?_append_left hi] at hz)
        · have hi2 : i = n' := by
            have := (List.getElem?_eq_some_iff.1 hz).1
            rw [List.length_append, List.length_singleton] at this
            omega
          subst hi2
          have hzy : y = z := by
            rw [List.getElem?_append_right (by omega), hll, Nat.sub_self] at hz
            simpa using hz
          subst hzy
          refine ⟨⟨cs', by rw [hcl, hsz], hK, fun j u hu => ?_⟩, hok⟩
          have hj : j < cs'.length := (List.getElem?_eq_some_iff.1 hu).1
          have := hcell j (by rw [← hcl]; exact hj)
          rw [Go.Deep.add_add, hsz] at this
          rw [this, hu]
    obtain ⟨l, hll, hle⟩ := key len (Nat.le_refl _)
    refine ⟨l, ⟨some a, cap, by rw [hll], by omega, rfl, by rw [hll]; have := hm; unfold maxLen at this; omega, fun _ => ⟨a, rfl, fun j p hp => (hle j p hp).1⟩⟩, fun y hy => ?_, by rw [hll]; omega⟩
    obtain ⟨i, hi⟩ := List.getElem?_of_mem hy
    exact (hle i y hi).2
theorem open_row {d : Kd α} {ok : α → Prop} {r : Reach} {b0 : Nat} {v : Value} {dd : DataW H} {p : List MemPlace} (ht : P.underlying t = some (.slice e)) (hsz : P.cellsOf e = d.sz) (hd : Opens enc P w spare held e d ok)
    (hv : Value.okWide P w r b0 t v) (h : DataW.Trod enc P w 0 spare held t v dd p) : ∃ (A : Option Addr) (l : List α) (c : Nat), v = .slice A l.length c ∧ l.length ≤ c ∧ d.C w A l.length l ∧ (∀ x ∈ l, ok x) ∧ l.length ≤ maxLen := by
  obtain ⟨a, len, cap, rfl⟩ := Go.WideShapes.okWide_slice ht hv
  obtain ⟨fuel, hf⟩ := h
  obtain ⟨l, ⟨A, c, hcs, hc, hC⟩, hok, hl⟩ := Opens.slice ht hsz hd _ _ _ hf
  simp only [Value.cells, List.cons.injEq, Value.slice.injEq, and_true] at hcs
  obtain ⟨rfl, rfl, rfl⟩ := hcs
  exact ⟨_, l, _, rfl, hc, hC, hok, hl⟩
end
end Go.Proofs.YtgbcihbnaecejaaW.PrintLast

namespace Go.Proofs.Ytgbcihbnaecejaa.Q
open Go Go.RowKit Go.Proofs.YtgbcihbnaecejaaW.PrintWords Go.Proofs.YtgbcihbnaecejaaW.PrintLast
def ok24 (x : S24) : Prop := ((Lit.int .i64 x.f0).wf = true) ∧ (x.f1.size ≤ maxLen) ∧ (x.f2.size ≤ maxLen) ∧ ((Lit.int .i64 x.f3).wf = true) ∧ ((Lit.int .i64 x.f4).wf = true) ∧ ((Lit.int .i64 x.f5).wf = true) ∧ ((Lit.int .i64 x.f6).wf = true) ∧ (True)
theorem opens24 {H : Type} {enc : TypeId × Value → H} {w : World} {spare : Nat → Bool} {held : Bool} : Opens enc Try.prog w spare held 24 k24 ok24 := by
  intro fuel cs x h
  obtain ⟨xs, n, _, _, hl, hlen, hf⟩ := DataW.trod_struct Try.underlying24 h
  have hl : cs.length = 8 := hl.trans (by kernel_rfl)
  have hlen : xs.length = 8 := hlen
  match xs, hlen with
  | [x0, x1, x2, x3, x4, x5, x6, x7], _ =>
    have c0 : Try.prog.cellsOf 3 = 1 := by kernel_rfl
    have h0 : DataW.trod enc Try.prog w 0 spare held n 3 ((cs.drop 0).take 1) = some x0 := by
      have q : DataW.trod enc Try.prog w 0 spare held n 3 ((cs.drop 0).take (Try.prog.cellsOf 3)) = some x0 := hf 0 _ rfl
      rw [c0] at q
      exact q
    obtain ⟨y0, K0, g0⟩ := (Opens.int Try.underlying3) _ _ _ h0
    have c1 : Try.prog.cellsOf 9 = 1 := by kernel_rfl
    have h1 : DataW.trod enc Try.prog w 0 spare held n 9 ((cs.drop 1).take 1) = some x1 := by
      have q : DataW.trod enc Try.prog w 0 spare held n 9 ((cs.drop 1).take (Try.prog.cellsOf 9)) = some x1 := hf 1 _ rfl
      rw [c1] at q
      exact q
    obtain ⟨y1, K1, g1⟩ := (Opens.string Try.underlying9) _ _ _ h1
    have c2 : Try.prog.cellsOf 9 = 1 := by kernel_rfl
    have h2 : DataW.trod enc Try.prog w 0 spare held n 9 ((cs.drop 2).take 1) = some x2 := by
      have q : DataW.trod enc Try.prog w 0 spare held n 9 ((cs.drop 2).take (Try.prog.cellsOf 9)) = some x2 := hf 2 _ rfl
      rw [c2] at q
      exact q
    obtain ⟨y2, K2, g2⟩ := (Opens.string Try.underlying9) _ _ _ h2
    have c3 : Try.prog.cellsOf 3 = 1 := by kernel_rfl
    have h3 : DataW.trod enc Try.prog w 0 spare held n 3 ((cs.drop 3).take 1) = some x3 := by
      have q : DataW.trod enc Try.prog w 0 spare held n 3 ((cs.drop 3).take (Try.prog.cellsOf 3)) = some x3 := hf 3 _ rfl
      rw [c3] at q
      exact q
    obtain ⟨y3, K3, g3⟩ := (Opens.int Try.underlying3) _ _ _ h3
    have c4 : Try.prog.cellsOf 3 = 1 := by kernel_rfl
    have h4 : DataW.trod enc Try.prog w 0 spare held n 3 ((cs.drop 4).take 1) = some x4 := by
      have q : DataW.trod enc Try.prog w 0 spare held n 3 ((cs.drop 4).take (Try.prog.cellsOf 3)) = some x4 := hf 4 _ rfl
      rw [c4] at q
      exact q
    obtain ⟨y4, K4, g4⟩ := (Opens.int Try.underlying3) _ _ _ h4
    have c5 : Try.prog.cellsOf 3 = 1 := by kernel_rfl
    have h5 : DataW.trod enc Try.prog w 0 spare held n 3 ((cs.drop 5).take 1) = some x5 := by
      have q : DataW.trod enc Try.prog w 0 spare held n 3 ((cs.drop 5).take (Try.prog.cellsOf 3)) = some x5 := hf 5 _ rfl
      rw [c5] at q
      exact q
    obtain ⟨y5, K5, g5⟩ := (Opens.int Try.underlying3) _ _ _ h5
    have c6 : Try.prog.cellsOf 3 = 1 := by kernel_rfl
    have h6 : DataW.trod enc Try.prog w 0 spare held n 3 ((cs.drop 6).take 1) = some x6 := by
      have q : DataW.trod enc Try.prog w 0 spare held n 3 ((cs.drop 6).take (Try.prog.cellsOf 3)) = some x6 := hf 6 _ rfl
      rw [c6] at q
      exact q
    obtain ⟨y6, K6, g6⟩ := (Opens.int Try.underlying3) _ _ _ h6
    have c7 : Try.prog.cellsOf 4 = 1 := by kernel_rfl
    have h7 : DataW.trod enc Try.prog w 0 spare held n 4 ((cs.drop 7).take 1) = some x7 := by
      have q : DataW.trod enc Try.prog w 0 spare held n 4 ((cs.drop 7).take (Try.prog.cellsOf 4)) = some x7 := hf 7 _ rfl
      rw [c7] at q
      exact q
    obtain ⟨y7, K7, g7⟩ := (Opens.bool Try.underlying4) _ _ _ h7
    have el := cut_last cs 7 1 (by rw [hl])
    exact ⟨⟨y0, y1, y2, y3, y4, y5, y6, y7⟩, ⟨_, _, (cut_ cs 0 1), K0, ⟨_, _, (cut_ cs 1 1), K1, ⟨_, _, (cut_ cs 2 1), K2, ⟨_, _, (cut_ cs 3 1), K3, ⟨_, _, (cut_ cs 4 1), K4, ⟨_, _, (cut_ cs 5 1), K5, ⟨_, _, (cut_ cs 6 1), K6, (by rw [el]; exact K7)⟩⟩⟩⟩⟩⟩⟩, g0, g1, g2, g3, g4, g5, g6, g7⟩
end Go.Proofs.Ytgbcihbnaecejaa.Q

namespace Go.Proofs.Ytgbcihbnaecejaa.Q
open Go
set_option linter.unusedVariables false
set_option linter.unusedSimpArgs false
theorem snocRec {α : Type} {P : List α → Prop} (nil : P []) (snoc : ∀ l a, P l → P (l ++ [a])) (l : List α) : P l := by
  have h : ∀ r : List α, P r.reverse := by
    intro r
    induction r with
    | nil => exact nil
    | cons a r ih => rw [List.reverse_cons]; exact snoc _ _ ih
  have := h l.reverse
  rwa [List.reverse_reverse] at this
abbrev Od := S24
def formedOk (o : Od) : Bool :=
  decide (1 ≤ o.f0 ∧ o.f0 ≤ 1000000) && nameOk o.f1 && nameOk o.f2 && decide (0 ≤ o.f3 ∧ o.f3 ≤ 1000000) && decide (0 ≤ o.f4 ∧ o.f4 ≤ 36524) && decide (0 ≤ o.f5 ∧ o.f5 ≤ 1199) && decide (0 ≤ o.f6 ∧ o.f6 ≤ 1000000000000)
def newIn (l : List Od) (o : Od) : Bool := l.all fun x => decide (x.f0 ≠ o.f0)
def nums (p : ByteArray) : List Od → List Od → Nat
  | _, [] => 0
  | pre, o :: r => (if o.f1 = p ∧ newIn pre o = true then 1 else 0) + nums p (pre ++ [o]) r
def lastLe (pre : List Od) (o : Od) : Bool := match pre.getLast? with | some x => decide (x.f4 ≤ o.f4) | none => true
def sameParties (pre : List Od) (o : Od) : Bool := pre.all fun x => decide (x.f0 = o.f0 → x.f1 = o.f1 ∧ x.f2 = o.f2)
def okNext (pre : List Od) (o : Od) : Bool :=
  formedOk o && lastLe pre o && sameParties pre o && (!newIn pre o || decide (nums o.f1 [] (pre ++ [o]) ≤ 16))
def validFrom : List Od → List Od → Bool
  | _, [] => true
  | pre, o :: r => okNext pre o && validFrom (pre ++ [o]) r
def valid (l : List Od) : Bool := decide (l.length ≤ 400) && validFrom [] l
theorem nums_append (p : ByteArray) : ∀ (a pre b : List Od), nums p pre (a ++ b) = nums p pre a + nums p (pre ++ a) b
  | [], pre, b => by simp [nums]
  | o :: r, pre, b => by
    simp only [List.cons_append, nums]
    rw [nums_append p r (pre ++ [o]) b]
    simp only [List.append_assoc, List.cons_append, List.nil_append]
    omega
theorem nums_snoc (p : ByteArray) (l : List Od) (o : Od) : nums p [] (l ++ [o]) = nums p [] l + (if o.f1 = p ∧ newIn l o = true then 1 else 0) := by
  rw [nums_append]
  simp [nums]
theorem validFrom_append : ∀ (a pre b : List Od), validFrom pre (a ++ b) = (validFrom pre a && validFrom (pre ++ a) b)
  | [], pre, b => by simp [validFrom]
  | o :: r, pre, b => by
    simp only [List.cons_append, validFrom]
    rw [validFrom_append r (pre ++ [o]) b]
    simp only [List.append_assoc, List.cons_append, List.nil_append, Bool.and_assoc]
theorem validFrom_snoc (l : List Od) (o : Od) : validFrom [] (l ++ [o]) = (validFrom [] l && okNext l o) := by
  rw [validFrom_append]
  simp [validFrom]
theorem valid_take {l : List Od} (h : valid l = true) (n : Nat) : valid (l.take n) = true := by
  unfold valid at h ⊢
  rw [Bool.and_eq_true, decide_eq_true_eq] at h ⊢
  refine ⟨by rw [List.length_take]; omega, ?_⟩
  have h2 := h.2
  rw [← List.take_append_drop n l, validFrom_append, Bool.and_eq_true] at h2
  exact h2.1
def curStep (person : ByteArray) (known : Int) (acc : List Od) (o : Od) : List Od :=
  if o.f1 = person ∧ o.f4 ≤ known then acc.filter (fun x => decide (x.f0 ≠ o.f0)) ++ [o] else acc
def cur (person : ByteArray) (known : Int) (l : List Od) : List Od := l.foldl (curStep person known) []
def lessO (a b : Od) : Prop := a.f3 < b.f3 ∨ a.f3 = b.f3 ∧ a.f0 < b.f0
instance (a b : Od) : Decidable (lessO a b) := by unfold lessO; infer_instance
def insO (o : Od) : List Od → List Od
  | [] => [o]
  | x :: r => if lessO x o then x :: insO o r else o :: x :: r
def sortO (l : List Od) : List Od := l.foldl (fun acc o => insO o acc) []
def isOpen (month : Int) (o : Od) : Bool := decide (o.f5 ≤ month ∧ 0 < o.f6)
def openO (l : List Od) (person : ByteArray) (month known : Int) : List Od :=
  if valid l = true then sortO ((cur person known l).filter (isOpen month)) else []
theorem cur_snoc (person : ByteArray) (known : Int) (l : List Od) (o : Od) : cur person known (l ++ [o]) = curStep person known (cur person known l) o := by
  simp [cur]
theorem cur_mem {person : ByteArray} {known : Int} {l : List Od} {o : Od} (h : o ∈ cur person known l) : o ∈ l ∧ o.f1 = person ∧ o.f4 ≤ known := by
  induction l using snocRec with
  | nil => simp [cur] at h
  | snoc l x ih =>
    rw [cur_snoc] at h
    unfold curStep at h
    split at h
    next hc =>
      rcases List.mem_append.1 h with h | h
      · have := ih (List.mem_filter.1 h).1
        exact ⟨List.mem_append.2 (.inl this.1), this.2⟩
      · have := List.mem_singleton.1 h
        subst this
        exact ⟨by simp, hc⟩
    next hc =>
      have := ih h
      exact ⟨List.mem_append.2 (.inl this.1), this.2⟩
theorem cur_distinct (person : ByteArray) (known : Int) (l : List Od) : (cur person known l).Pairwise (fun a b => a.f0 ≠ b.f0) := by
  induction l using snocRec with
  | nil => simp [cur]
  | snoc l x ih =>
    rw [cur_snoc]
    unfold curStep
    split
    · refine List.pairwise_append.2 ⟨ih.filter _, List.pairwise_singleton _ _, fun a ha b hb => ?_⟩
      have := List.mem_singleton.1 hb
      subst this
      have := (List.mem_filter.1 ha).2
      exact of_decide_eq_true this
    · exact ih
theorem lessO_trans {a b c : Od} (h : lessO a b) (k : lessO b c) : lessO a c := by
  unfold lessO at *
  omega
theorem insO_perm (o : Od) : ∀ l : List Od, (insO o l).Perm (o :: l)
  | [] => List.Perm.refl _
  | x :: r => by
    unfold insO
    split
    · exact ((insO_perm o r).cons x).trans (List.Perm.swap o x r)
    · exact List.Perm.refl _
theorem insO_sorted (o : Od) : ∀ l : List Od, l.Pairwise lessO → (∀ x ∈ l, x.f0 ≠ o.f0) → (insO o l).Pairwise lessO
  | [], _, _ => List.pairwise_singleton _ _
  | x :: r, hp, hd => by
    obtain ⟨h1, h2⟩ := List.pairwise_cons.1 hp
    unfold insO
    split
    next hl =>
      refine List.pairwise_cons.2 ⟨fun y hy => ?_, insO_sorted o r h2 fun y hy => hd y (List.mem_cons_of_mem _ hy)⟩
      rcases List.mem_cons.1 ((insO_perm o r).mem_iff.1 hy) with e | hy'
      · subst e; exact hl
      · exact h1 y hy'
    next hl =>
      have hxo : lessO o x := by
        have := hd x (List.mem_cons_self ..)
        unfold lessO at hl ⊢
        omega
      refine List.pairwise_cons.2 ⟨fun y hy => ?_, hp⟩
      rcases List.mem_cons.1 hy with e | hy'
      · subst e; exact hxo
      · exact lessO_trans hxo (h1 y hy')
theorem sortO_snoc (l : List Od) (o : Od) : sortO (l ++ [o]) = insO o (sortO l) := by simp [sortO]
theorem sortO_perm (l : List Od) : (sortO l).Perm l := by
  induction l using snocRec with
  | nil => exact List.Perm.refl _
  | snoc l x ih =>
    rw [sortO_snoc]
    exact (insO_perm x _).trans ((ih.cons x).trans (List.perm_append_singleton x l).symm)
theorem sortO_sorted {l : List Od} (h : l.Pairwise (fun a b => a.f0 ≠ b.f0)) : (sortO l).Pairwise lessO := by
  induction l using snocRec with
  | nil => exact List.Pairwise.nil
  | snoc l x ih =>
    rw [sortO_snoc]
    obtain ⟨h1, _, h3⟩ := List.pairwise_append.1 h
    exact insO_sorted x _ (ih h1) fun y hy => h3 y ((sortO_perm l).mem_iff.1 hy) x (by simp)
theorem sorted_unique : ∀ {a b : List Od}, a.Perm b → a.Pairwise lessO → b.Pairwise lessO → a = b
  | [], b, hp, _, _ => (List.nil_perm.1 hp).symm
  | x :: a, [], hp, _, _ => by simpa using hp.length_eq
  | x :: a, y :: b, hp, ha, hb => by
    obtain ⟨ha1, ha2⟩ := List.pairwise_cons.1 ha
    obtain ⟨hb1, hb2⟩ := List.pairwise_cons.1 hb
    have e : x = y := by
      rcases List.mem_cons.1 (hp.mem_iff.1 (List.mem_cons_self ..)) with e | h1
      · exact e
      · rcases List.mem_cons.1 (hp.mem_iff.2 (List.mem_cons_self ..)) with e | h2
        · exact e.symm
        · have := lessO_trans (ha1 y h2) (hb1 x h1)
          unfold lessO at this
          omega
    subst e
    rw [sorted_unique (List.perm_cons x |>.1 hp) ha2 hb2]
theorem sortO_of_perm {l s : List Od} (hd : l.Pairwise (fun a b => a.f0 ≠ b.f0)) (hp : s.Perm l) (hs : s.Pairwise lessO) : s = sortO l :=
  sorted_unique (hp.trans (sortO_perm l).symm) hs (sortO_sorted hd)
theorem getLast_pairwise {l : List Od} {o : Od} (h : l.Pairwise (fun a b => a.f4 ≤ b.f4)) : (l ++ [o]).Pairwise (fun a b => a.f4 ≤ b.f4) ↔ lastLe l o = true := by
  unfold lastLe
  rw [List.pairwise_append]
  cases hl : l.getLast? with
  | none =>
    have := List.getLast?_eq_none_iff.1 hl
    subst this
    simp
  | some x =>
    rw [decide_eq_true_eq]
    obtain ⟨ys, rfl⟩ := List.getLast?_eq_some_iff.1 hl
    obtain ⟨h1, _, h3⟩ := List.pairwise_append.1 h
    constructor
    · rintro ⟨_, _, h4⟩
      exact h4 x (by simp) o (by simp)
    · intro hx
      refine ⟨h, List.pairwise_singleton _ _, fun a ha b hb => ?_⟩
      have := List.mem_singleton.1 hb
      subst this
      rcases List.mem_append.1 ha with ha | ha
      · have := h3 a ha x (by simp)
        omega
      · have := List.mem_singleton.1 ha
        subst this
        exact hx
structure Good (l : List Od) : Prop where
  formed : ∀ o ∈ l, formedOk o = true
  rising : l.Pairwise (fun a b => a.f4 ≤ b.f4)
  parties : ∀ a ∈ l, ∀ b ∈ l, a.f0 = b.f0 → a.f1 = b.f1 ∧ a.f2 = b.f2
  few : ∀ p, nums p [] l ≤ 16
theorem newIn_iff {l : List Od} {o : Od} : newIn l o = true ↔ ∀ x ∈ l, x.f0 ≠ o.f0 := by
  unfold newIn
  rw [List.all_eq_true]
  exact forall_congr' fun x => forall_congr' fun hx => decide_eq_true_iff
theorem good_iff (l : List Od) : validFrom [] l = true ↔ Good l := by
  induction l using snocRec with
  | nil => exact ⟨fun _ => ⟨by simp, List.Pairwise.nil, by simp, fun p => by simp [nums]⟩, fun _ => rfl⟩
  | snoc l o ih =>
    rw [validFrom_snoc, Bool.and_eq_true, ih]
    unfold okNext
    simp only [Bool.and_eq_true, Bool.or_eq_true, Bool.not_eq_true', decide_eq_true_eq]
    constructor
    · rintro ⟨g, ⟨⟨h1, h2⟩, h3⟩, h4⟩
      refine ⟨fun x hx => ?_, (getLast_pairwise g.rising).2 h2, fun a ha b hb hab => ?_, fun p => ?_⟩
      · rcases List.mem_append.1 hx with hx | hx
        · exact g.formed x hx
        · rw [List.mem_singleton.1 hx]; exact h1
      · unfold sameParties at h3
        rw [List.all_eq_true] at h3
        rcases List.mem_append.1 ha with ha | ha <;> rcases List.mem_append.1 hb with hb | hb
        · exact g.parties a ha b hb hab
        · rw [List.mem_singleton.1 hb] at hab ⊢
          exact of_decide_eq_true (h3 a ha) hab
        · rw [List.mem_singleton.1 ha] at hab ⊢
          have := of_decide_eq_true (h3 b hb) hab.symm
          exact ⟨this.1.symm, this.2.symm⟩
        · rw [List.mem_singleton.1 ha, List.mem_singleton.1 hb]
          exact ⟨rfl, rfl⟩
      · rw [nums_snoc]
        have g4 := g.few p
        split
        next hc =>
          rcases h4 with h4 | h4
          · rw [hc.2] at h4; cases h4
          · rw [nums_snoc, if_pos ⟨rfl, hc.2⟩] at h4
            rw [← hc.1]
            exact h4
        next => omega
    · intro g
      have hr : l.Pairwise (fun a b => a.f4 ≤ b.f4) := (List.pairwise_append.1 g.rising).1
      refine ⟨⟨fun x hx => g.formed x (by simp [hx]), hr, fun a ha b hb => g.parties a (by simp [ha]) b (by simp [hb]), fun p => ?_⟩, ⟨⟨g.formed o (by simp), (getLast_pairwise hr).1 g.rising⟩, ?_⟩, .inr (g.few o.f1)⟩
      · have := g.few p
        rw [nums_snoc] at this
        omega
      · unfold sameParties
        rw [List.all_eq_true]
        exact fun x hx => decide_eq_true fun hxo => g.parties x (by simp [hx]) o (by simp) hxo
theorem valid_iff (l : List Od) : valid l = true ↔ l.length ≤ 400 ∧ Good l := by
  unfold valid
  rw [Bool.and_eq_true, decide_eq_true_eq, good_iff]
theorem sortO_length (l : List Od) : (sortO l).length = l.length := (sortO_perm l).length_eq
end Go.Proofs.Ytgbcihbnaecejaa.Q

namespace Go.Proofs.Ytgbcihbnaecejaa.Q
open Go Go.RowKit Go.Proofs.YtgbcihbnaecejaaW.PrintWords Go.Proofs.YtgbcihbnaecejaaW.PrintLast Go.Proofs.YtgbcihbnaecejaaW.PrintMore
set_option linter.unusedVariables false
set_option linter.unusedSimpArgs false
theorem within_f (n h : Int) : orders_within.f n h = some (decide (0 ≤ n ∧ n ≤ h)) := by
  unfold orders_within.f
  by_cases h1 : 0 ≤ n <;> by_cases h2 : n ≤ h <;> simp [h1, h2]
theorem formed_f (o : Od) : orders_formed.f o.f0 o.f1 o.f2 o.f3 o.f4 o.f5 o.f6 o.f7 = some (formedOk o) := by
  unfold orders_formed.f formedOk
  simp only [within_f, orders_name.f, Option.bind_some]
  by_cases h1 : 1 ≤ o.f0
  · by_cases h2 : o.f0 ≤ 1000000
    · rw [if_pos h1, if_pos h2, decide_eq_true (show 1 ≤ o.f0 ∧ o.f0 ≤ 1000000 from ⟨h1, h2⟩)]
      cases nameOk o.f1 <;> cases nameOk o.f2 <;> cases decide (0 ≤ o.f3 ∧ o.f3 ≤ 1000000) <;> cases decide (0 ≤ o.f4 ∧ o.f4 ≤ 36524) <;> cases decide (0 ≤ o.f5 ∧ o.f5 ≤ 1199) <;> cases decide (0 ≤ o.f6 ∧ o.f6 ≤ 1000000000000) <;> rfl
    · rw [if_pos h1, if_neg h2, decide_eq_false (fun h => h2 h.2)]
      simp
  · rw [if_neg h1, decide_eq_false (fun h => h1 h.1)]
    simp
theorem formed_c (o : Od) (w : World) : Calls Try.prog 20 #[.agg #[.int .i64 o.f0, .string o.f1, .string o.f2, .int .i64 o.f3, .int .i64 o.f4, .int .i64 o.f5, .int .i64 o.f6, .bool o.f7]] w fun e w' => e = .returned (.bool (formedOk o)) ∧ Below w.heap.size w w' :=
  orders_formed.calls _ _ _ _ _ _ _ _ _ w (formed_f o)
theorem formed_b {o : Od} {b : Bool} (h : formedOk o = b) (w : World) : Calls Try.prog 20 #[.agg #[.int .i64 o.f0, .string o.f1, .string o.f2, .int .i64 o.f3, .int .i64 o.f4, .int .i64 o.f5, .int .i64 o.f6, .bool o.f7]] w fun e w' => e = .returned (.bool b) ∧ Below w.heap.size w w' := by
  subst h
  exact formed_c o w
structure FOk (o : Od) : Prop where
  f0 : 1 ≤ o.f0 ∧ o.f0 ≤ 1000000
  f1 : o.f1.size ≤ 16
  f2 : o.f2.size ≤ 16
  f3 : 0 ≤ o.f3 ∧ o.f3 ≤ 1000000
  f4 : 0 ≤ o.f4 ∧ o.f4 ≤ 36524
  f5 : 0 ≤ o.f5 ∧ o.f5 ≤ 1199
  f6 : 0 ≤ o.f6 ∧ o.f6 ≤ 1000000000000
theorem FOk.of {o : Od} (h : formedOk o = true) : FOk o := by
  unfold formedOk at h
  simp only [Bool.and_eq_true, decide_eq_true_eq] at h
  obtain ⟨⟨⟨⟨⟨⟨h0, h1⟩, h2⟩, h3⟩, h4⟩, h5⟩, h6⟩ := h
  obtain ⟨⟨_, a, _⟩, _⟩ := (nameOk_iff _).1 h1
  obtain ⟨⟨_, b, _⟩, _⟩ := (nameOk_iff _).1 h2
  exact ⟨h0, a, b, h3, h4, h5, h6⟩
def odAt (l : List Od) (i : Nat) : Od := l.getD i ⟨0, ⟨#[]⟩, ⟨#[]⟩, 0, 0, 0, 0, false⟩
theorem odAt_mem {l : List Od} {i : Nat} (h : i < l.length) : odAt l i ∈ l := by
  unfold odAt
  rw [List.getD_eq_getElem?_getD, List.getElem?_eq_getElem h]
  exact List.getElem_mem h
theorem take_odAt {l : List Od} {i : Nat} (h : i < l.length) : l.take (i + 1) = l.take i ++ [odAt l i] := by
  rw [List.take_succ_eq_append_getElem h]
  unfold odAt
  rw [List.getD_eq_getElem?_getD, List.getElem?_eq_getElem h]
  rfl
theorem odAt_last {l : List Od} {i : Nat} (h : i < l.length) (h0 : 0 < i) : (l.take i).getLast? = some (odAt l (i - 1)) := by
  have := take_odAt (l := l) (i := i - 1) (by omega)
  rw [Nat.sub_add_cancel h0] at this
  rw [this, List.getLast?_concat]
theorem lastLe_at {l : List Od} {i : Nat} (h : i < l.length) : lastLe (l.take i) (odAt l i) = decide (0 < i → (odAt l (i - 1)).f4 ≤ (odAt l i).f4) := by
  unfold lastLe
  by_cases h0 : 0 < i
  · rw [odAt_last h h0]
    simp [h0]
  · obtain rfl : i = 0 := by omega
    simp
theorem od_cells {w : World} {A : Option Addr} {l : List Od} (h : Kd.C k24 w A l.length l) {i : Nat} (hi : i < l.length) :
    ∃ ad, A = some ad ∧ w.cell? (ad.add (i * 8)) = some (.int .i64 (odAt l i).f0) ∧ w.cell? ⟨(ad.add (i * 8)).block, (ad.add (i * 8)).off + 1, none⟩ = some (.string (odAt l i).f1) ∧ w.cell? ⟨(ad.add (i * 8)).block, (ad.add (i * 8)).off + 2, none⟩ = some (.string (odAt l i).f2) ∧ w.cell? ⟨(ad.add (i * 8)).block, (ad.add (i * 8)).off + 3, none⟩ = some (.int .i64 (odAt l i).f3) ∧ w.cell? ⟨(ad.add (i * 8)).block, (ad.add (i * 8)).off + 4, none⟩ = some (.int .i64 (odAt l i).f4) ∧ w.cell? ⟨(ad.add (i * 8)).block, (ad.add (i * 8)).off + 5, none⟩ = some (.int .i64 (odAt l i).f5) ∧ w.cell? ⟨(ad.add (i * 8)).block, (ad.add (i * 8)).off + 6, none⟩ = some (.int .i64 (odAt l i).f6) ∧ w.cell? ⟨(ad.add (i * 8)).block, (ad.add (i * 8)).off + 7, none⟩ = some (.bool (odAt l i).f7) := by
  obtain ⟨ad, e, h0, h1, h2, h3, h4, h5, h6, h7⟩ := at_T24 h (i : Int) (by omega) (by omega)
  have er : rd_T24 l (i : Int) = odAt l i := rfl
  rw [er] at h0 h1 h2 h3 h4 h5 h6 h7
  exact ⟨ad, e, h0, h1, h2, h3, h4, h5, h6, h7⟩
abbrev odV (o : Od) : Value := .agg #[.int .i64 o.f0, .string o.f1, .string o.f2, .int .i64 o.f3, .int .i64 o.f4, .int .i64 o.f5, .int .i64 o.f6, .bool o.f7]
theorem str_eq {a b : ByteArray} : a.toList = b.toList ↔ a = b := by
  constructor
  · intro h
    rw [Lib.toList_data, Lib.toList_data] at h
    cases a
    cases b
    congr
    exact Array.toList_inj.1 h
  · rintro rfl
    rfl
theorem valid_stop {l : List Od} {k : Nat} (hk : k < l.length) (h : okNext (l.take k) (odAt l k) = false) : valid l = false := by
  cases hv : valid l with
  | false => rfl
  | true =>
    have h1 := valid_take hv (k + 1)
    unfold valid at h1
    rw [take_odAt hk, validFrom_snoc, h] at h1
    simp at h1
theorem newIn_false {pre : List Od} {o x : Od} (hx : x ∈ pre) (he : x.f0 = o.f0) : newIn pre o = false := by
  cases h : newIn pre o with
  | false => rfl
  | true => exact absurd he (newIn_iff.1 h x hx)
theorem okNext_old {pre : List Od} {o x : Od} (hv : validFrom [] pre = true) (hf : formedOk o = true) (hl : lastLe pre o = true) (hx : x ∈ pre) (he : x.f0 = o.f0) (hs : x.f1 = o.f1 ∧ x.f2 = o.f2) : okNext pre o = true := by
  have g := (good_iff pre).1 hv
  have h1 : sameParties pre o = true := by
    unfold sameParties
    rw [List.all_eq_true]
    intro y hy
    refine decide_eq_true fun hyo => ?_
    have := g.parties y hy x hx (hyo.trans he.symm)
    exact ⟨this.1.trans hs.1, this.2.trans hs.2⟩
  unfold okNext
  rw [hf, hl, h1, newIn_false hx he]
  rfl
theorem okNext_diff {pre : List Od} {o x : Od} (hx : x ∈ pre) (he : x.f0 = o.f0) (hs : ¬ (x.f1 = o.f1 ∧ x.f2 = o.f2)) : okNext pre o = false := by
  have h1 : sameParties pre o = false := by
    cases h : sameParties pre o with
    | false => rfl
    | true =>
      unfold sameParties at h
      rw [List.all_eq_true] at h
      exact absurd (of_decide_eq_true (h x hx) he) hs
  unfold okNext
  rw [h1]
  simp
theorem okNext_new {pre : List Od} {o : Od} (hf : formedOk o = true) (hl : lastLe pre o = true) (hn : ∀ x ∈ pre, x.f0 ≠ o.f0) : okNext pre o = decide (nums o.f1 [] pre + 1 ≤ 16) := by
  have h0 : newIn pre o = true := newIn_iff.2 hn
  have h1 : sameParties pre o = true := by
    unfold sameParties
    rw [List.all_eq_true]
    exact fun y hy => decide_eq_true fun hyo => absurd hyo (hn y hy)
  unfold okNext
  rw [hf, hl, h1, h0, nums_snoc, if_pos ⟨rfl, h0⟩]
  rfl
theorem few_of {pre : List Od} (hv : validFrom [] pre = true) (p : ByteArray) : nums p [] pre ≤ 16 := ((good_iff pre).1 hv).few p
theorem validFrom_next {l : List Od} {k : Nat} (hk : k < l.length) (hv : validFrom [] (l.take k) = true) (h : okNext (l.take k) (odAt l k) = true) : validFrom [] (l.take (k + 1)) = true := by
  rw [take_odAt hk, validFrom_snoc, hv, h]
  rfl
end Go.Proofs.Ytgbcihbnaecejaa.Q

namespace Go.Proofs.YtgbcihbnaecejaaW.PrintLast
open Go Go.RowKit Go.Proofs.YtgbcihbnaecejaaW.PrintWords
structure KB (S : Nat → Prop) (W W' : World) : Prop where
  os : W'.os = W.os
  tape : W'.tape = W.tape
  output : W'.output = W.output
  size : W.heap.size ≤ W'.heap.size
  block : ∀ k, k < W.heap.size → ¬ S k → W'.heap[k]? = W.heap[k]?
def NoB (_ : Nat) : Prop := False
theorem KB.refl (S : Nat → Prop) (W : World) : KB S W W := ⟨rfl, rfl, rfl, Nat.le_refl _, fun _ _ _ => rfl⟩
theorem KB.trans {S : Nat → Prop} {A B C : World} (h : KB S A B) (k : KB S B C) : KB S A C :=
  ⟨k.os.trans h.os, k.tape.trans h.tape, k.output.trans h.output, Nat.le_trans h.size k.size, fun i hi hs => (k.block i (Nat.lt_of_lt_of_le hi h.size) hs).trans (h.block i hi hs)⟩
theorem KB.trans' {S T : Nat → Prop} {A B C : World} (h : KB S A B) (k : KB T B C) (hT : ∀ i, T i → i < A.heap.size → S i) : KB S A C :=
  ⟨k.os.trans h.os, k.tape.trans h.tape, k.output.trans h.output, Nat.le_trans h.size k.size, fun i hi hs => (k.block i (Nat.lt_of_lt_of_le hi h.size) (fun ht => hs (hT i ht hi))).trans (h.block i hi hs)⟩
theorem KB.mono {S T : Nat → Prop} {A B : World} (h : KB S A B) (hT : ∀ i, S i → i < A.heap.size → T i) : KB T A B :=
  ⟨h.os, h.tape, h.output, h.size, fun i hi hs => h.block i hi (fun hss => hs (hT i hss hi))⟩
theorem KB.alloc {S : Nat → Prop} {A B : World} (h : KB S A B) (o : Obj) : KB S A (B.alloc o) :=
  h.trans ⟨rfl, rfl, rfl, by simp, fun k hk _ => Below.heap_alloc _ _ _ hk⟩
theorem KB.setCell {S : Nat → Prop} {A B : World} (h : KB S A B) {p : Addr} (hp : S p.block ∨ A.heap.size ≤ p.block) (u : Value) : KB S A (B.setCell p u) :=
  ⟨h.os, h.tape, h.output, by have := h.size; simpa [World.setCell] using this, fun k hk hs => (Below.heap_setCell _ _ _ _ (fun e => by subst e; rcases hp with hp | hp; exact hs hp; omega)).trans (h.block k hk hs)⟩
theorem KB.drew {S : Nat → Prop} {A B : World} (h : KB S A B) : KB S A B.drew := ⟨h.os, h.tape, h.output, h.size, h.block⟩
theorem KB.drewN {S : Nat → Prop} {A B : World} (h : KB S A B) (n : Nat) : KB S A (B.drewN n) := ⟨h.os, h.tape, h.output, h.size, h.block⟩
theorem KB.of_below {w w' : World} (h : Below w.heap.size w w') : KB NoB w w' := ⟨h.os, h.tape, h.output, h.size, fun k hk _ => h.block k hk⟩
theorem KB.below {S : Nat → Prop} {w w' : World} {B : Nat} (h : KB S w w') (hB : B ≤ w.heap.size) (hS : ∀ k, S k → B ≤ k) : Below B w w' := ⟨h.os, h.tape, h.output, h.size, fun k hk => h.block k (by omega) (fun hs => by have := hS k hs; omega)⟩
theorem KB.get {S : Nat → Prop} {W W' : World} (h : KB S W W') {B : Nat} (hB : ¬ S B) {o : Obj} (hv : W.heap[B]? = some o) : W'.heap[B]? = some o := (h.block B (Array.getElem?_eq_some_iff.1 hv).1 hB).trans hv
theorem KB.cell {S : Nat → Prop} {W W' : World} (h : KB S W W') {a : Addr} (hB : ¬ S a.block) {v : Value} (hv : W.cell? a = some v) : W'.cell? a = some v :=
  (World.cell?_of_block (w := W) (h.block _ (World.block_lt_of_cell? W a hv) hB)).trans hv
def ElemB (e : TypeId) (W : World) (k : Nat) : Prop := ∃ cs fz, W.heap[k]? = some (.cells cs e fz)
def MineE (Mine : Nat → Prop) (L : Nat) (e : TypeId) (W : World) (k : Nat) : Prop := Mine k ∨ (L ≤ k ∧ ElemB e W k)
theorem own_KB {S : Nat → Prop} {W W' : World} {base : Nat} {e : TypeId} {size n : Nat} {v : Value} {xs : List Value} (h : W.ownsRow base e size v n xs) (hk : KB S W W') (hS : ∀ k, S k → k < base) : W'.ownsRow base e size v n xs := by
  refine own_move h fun k hv => ?_
  rcases h.2 with ⟨rfl, _⟩ | ⟨g, cap, cur, rfl, hg, hh, r⟩
  · simp [Value.ownBlock] at hv
  · have e1 : g = k := by simpa [Value.ownBlock] using hv
    subst e1
    exact hk.block g (Array.getElem?_eq_some_iff.1 hh).1 (fun hs => by have := hS g hs; omega)
theorem KB.of_append {W w1 : World} {base : Nat} {e : TypeId} {size n : Nat} {v : Value} {xs : List Value} {tmp : Obj} {Mine : Nat → Prop} {L : Nat} (h : W.ownsRow base e size v n xs) (hL : L ≤ base) (hg : (W.alloc tmp).grownBy w1 v.ownBlock) : KB (MineE Mine L e W) W w1 := by
  have h1 : KB (MineE Mine L e W) (W.alloc tmp) w1 := ⟨hg.os, hg.tape, hg.output, hg.size, fun k hk hs => hg.block k hk (fun ek => by
    rcases h.2 with ⟨rfl, _⟩ | ⟨g, cap, cur, rfl, hb, hh, r⟩
    · simp [Value.ownBlock] at ek
    · have e1 : k = g := by simpa [Value.ownBlock] using ek
      subst e1
      exact hs (.inr ⟨by omega, _, _, hh⟩))⟩
  exact ((KB.refl _ _).alloc tmp).trans h1
section
variable {P : Program} {ops : Array Oper} {Q : Exit → Act → World → Prop} {S : World → Prop} {md : Region.Mode}
end
end Go.Proofs.YtgbcihbnaecejaaW.PrintLast

namespace Go.Proofs.Ytgbcihbnaecejaa.Q
open Go Go.RowKit Go.Maps Go.Proofs.YtgbcihbnaecejaaW.PrintLast
set_option linter.unusedVariables false
def vread (v : Value) : Option (DataW Value × List MemPlace) := some (.held v, [])
theorem vread_eq {v x : Value} {ps : List MemPlace} (h : vread v = some (.held x, ps)) : v = x := by
  unfold vread at h
  injection h with h
  injection h with h _
  injection h
def Lk (D : DataW Value) (f : Lit → Option Value) : Prop :=
  ∀ kl, WideAt.IsKeyLit kl → Maps.has D kl = (f kl).isSome ∧ ∀ v, f kl = some v → ∀ z, D.atKey kl z = .held v
def MapV (P : Program) (k : TypeId) (w : World) (b n : Nat) (f : Lit → Option Value) : Prop :=
  ∃ D : DataW Value, w.ownsMap P k vread b n D ∧ Lk D f
variable {P : Program} {k : TypeId} {w : World} {b n : Nat} {f : Lit → Option Value}
theorem MapV.made (P : Program) (k : TypeId) (w : World) : MapV P k (w.alloc (.map #[] 0)) w.heap.size 0 (fun _ => none) :=
  ⟨.map [], World.ownsMap_made w _ _ _, fun _ _ => ⟨rfl, fun _ h => by cases h⟩⟩
theorem MapV.kb {S : Nat → Prop} {w' : World} (h : MapV P k w b n f) (hk : KB S w w') (hb : ¬ S b) : MapV P k w' b n f := by
  obtain ⟨D, ⟨es, clock, h1, h2, h3, h4⟩, h5⟩ := h
  exact ⟨D, ⟨es, clock, hk.get hb h1, h2, h3, h4⟩, h5⟩
theorem MapV.mono (h : MapV P k w b n f) {m : Nat} (hm : n ≤ m) : MapV P k w b m f := by
  obtain ⟨D, h1, h2⟩ := h
  exact ⟨D, h1.mono hm, h2⟩
theorem MapV.congr (h : MapV P k w b n f) {g : Lit → Option Value} (hg : ∀ kl, WideAt.IsKeyLit kl → f kl = g kl) : MapV P k w b n g := by
  obtain ⟨D, h1, h2⟩ := h
  exact ⟨D, h1, fun kl hk => by rw [← hg kl hk]; exact h2 kl hk⟩
theorem MapV.lt (h : MapV P k w b n f) : b < w.heap.size := by
  obtain ⟨D, h1, h2⟩ := h
  exact h1.lt
theorem MapV.look {t e : TypeId} (h : MapV P k w b n f) (K : Keyed P k) (ht : P.underlying t = some (.map k e)) {z : Value} (hz : (zeroValue e).run P w = .ok z w) {key : Value} {kl : Lit} (hkey : keyOf P k key = some kl) :
    (Instr.lookup t (.map (some b)) key false).run P w = .ok ((f kl).getD z) w := by
  obtain ⟨D, ho, hl⟩ := h
  obtain ⟨v, ps, hrun, hv⟩ := ho.lookup K ht hz (zd := .held z) (zp := []) rfl hkey
  obtain ⟨h1, h2⟩ := hl kl (K.key hkey)
  cases hf : f kl with
  | some x => rw [h2 x hf] at hv; rw [vread_eq hv] at hrun; exact hrun
  | none =>
    rw [hf] at h1
    rw [Maps.atKey_of_not_has h1] at hv
    rw [vread_eq hv] at hrun
    exact hrun
theorem MapV.look_ok {t e : TypeId} (h : MapV P k w b n f) (K : Keyed P k) (ht : P.underlying t = some (.map k e)) {z : Value} (hz : (zeroValue e).run P w = .ok z w) {key : Value} {kl : Lit} (hkey : keyOf P k key = some kl) :
    (Instr.lookup t (.map (some b)) key true).run P w = .ok (.tuple #[(f kl).getD z, .bool (f kl).isSome]) w := by
  obtain ⟨D, ho, hl⟩ := h
  obtain ⟨v, ps, hrun, hv⟩ := ho.look_ok K ht hz (zd := .held z) (zp := []) rfl hkey
  obtain ⟨h1, h2⟩ := hl kl (K.key hkey)
  rw [h1] at hrun
  cases hf : f kl with
  | some x => rw [h2 x hf] at hv; rw [vread_eq hv, hf] at hrun; exact hrun
  | none =>
    rw [hf] at h1 hrun
    rw [Maps.atKey_of_not_has h1] at hv
    rw [vread_eq hv] at hrun
    exact hrun
noncomputable def putL (f : Lit → Option Value) (kl : Lit) (v : Value) : Lit → Option Value := fun x => @ite _ (x = kl) (Classical.propDecidable _) (some v) (f x)
theorem MapV.store {t e : TypeId} (h : MapV P k w b n f) (K : Keyed P k) (ht : P.underlying t = some (.map k e)) (hn : n < maxLen) {key : Value} {kl : Lit} (hkey : keyOf P k key = some kl) (val : Value) :
    ∃ w', (Instr.mapUpdate t (.map (some b)) key val).run P w = .ok () w' ∧ MapV P k w' b (n + 1) (putL f kl val) ∧ KB (fun i => i = b) w w' := by
  obtain ⟨D, ho, hl⟩ := h
  obtain ⟨w', hrun, ho', hg⟩ := ho.update K ht hn hkey (d := .held val) (ps := []) rfl
  refine ⟨w', hrun, ⟨_, ho', fun kl' hk' => ?_⟩, ⟨hg.os, hg.tape, hg.output, hg.size, fun i hi hb => hg.block i hi (fun e => hb (by cases e; rfl))⟩⟩
  unfold putL
  by_cases e : kl' = kl
  · subst e
    rw [if_pos rfl]
    refine ⟨by rw [Maps.has_put_same ho.isMap hk']; rfl, fun v hv z => ?_⟩
    injection hv with hv
    rw [Maps.atKey_put_same ho.isMap hk', hv]
  · rw [if_neg e]
    obtain ⟨h1, h2⟩ := hl kl' hk'
    exact ⟨by rw [Maps.has_put_other e, h1], fun v hv z => by rw [Maps.atKey_put_other e, h2 v hv]⟩
def RangeV (P : Program) (k : TypeId) (w : World) (b r n : Nat) (f : Lit → Option Value) (left : Lit → Bool) (cnt : Nat) : Prop :=
  ∃ D : DataW Value, w.ranges P k vread b r n D left cnt ∧ Lk D f
theorem MapV.range {t e : TypeId} (h : MapV P k w b n f) (K : Keyed P k) (ht : P.underlying t = some (.map k e)) :
    ∃ w' left cnt, (Instr.range t (.map (some b))).run P w = .ok (.pointer (some ⟨w.heap.size, 0, none⟩)) w' ∧ RangeV P k w' b w.heap.size n f left cnt ∧ cnt ≤ n ∧ (∀ kl, WideAt.IsKeyLit kl → left kl = (f kl).isSome) ∧ KB NoB w w' ∧ w'.heap.size = w.heap.size + 1 := by
  obtain ⟨D, ho, hl⟩ := h
  obtain ⟨w', hrun, hr, hg, hs⟩ := ho.range K ht
  exact ⟨w', _, _, hrun, ⟨D, hr, hl⟩, ho.size_le, fun kl hk => (hl kl hk).1, ⟨hg.os, hg.tape, hg.output, hg.size, fun i hi _ => hg.block i hi (by simp)⟩, hs⟩
theorem RangeV.next {r cnt : Nat} {left : Lit → Bool} (h : RangeV P k w b r n f left cnt) (K : Keyed P k) (ty : TypeId) :
    (cnt = 0 ∧ (∀ kl, left kl = false) ∧ (Instr.next (.pointer (some ⟨r, 0, none⟩)) false ty).run P w = .ok (.tuple #[.bool false]) w) ∨
    ∃ key v kl w' cnt', keyOf P k key = some kl ∧ left kl = true ∧ f kl = some v ∧ (Instr.next (.pointer (some ⟨r, 0, none⟩)) false ty).run P w = .ok (.tuple #[.bool true, key, v]) w' ∧
      RangeV P k w' b r n f (fun x => left x && !x.sameKey kl) cnt' ∧ cnt' < cnt ∧ KB (fun i => i = r) w w' ∧ w'.heap.size = w.heap.size ∧ (Instr.entry (.pointer (some ⟨r, 0, none⟩))).run P w' = .ok (.tuple #[key, v]) w' := by
  obtain ⟨D, hr, hl⟩ := h
  have hown := hr.owns
  rcases hr.next K ty with h0 | ⟨key, v, kl, y, w', cnt', h1, h2, h3, h4, h5, h6, h7, h8, h9, h10⟩
  · exact .inl h0
  · right
    have hk := K.key h1
    obtain ⟨l1, l2⟩ := hl kl hk
    refine ⟨key, v, kl, w', cnt', h1, h2, ?_, h5, ⟨D, h6, hl⟩, h7, ⟨h8.os, h8.tape, h8.output, h8.size, fun i hi hb => h8.block i hi (fun e => hb (by cases e; rfl))⟩, h9, h10⟩
    unfold vread at h3
    injection h3 with h3
    have hat := h4
    rw [← h3] at hat
    cases hf : f kl with
    | none =>
      rw [hf] at l1
      have := Maps.atKey_of_not_has l1 (.lit (.bool true))
      rw [hat] at this
      cases this
    | some x =>
      have := l2 x hf (.lit (.bool true))
      rw [hat] at this
      injection this with this
      rw [this]
theorem RangeV.kb {S : Nat → Prop} {r cnt : Nat} {left : Lit → Bool} {w' : World} (h : RangeV P k w b r n f left cnt) (hk : KB S w w') (hb : ¬ S b) (hr : ¬ S r) : RangeV P k w' b r n f left cnt := by
  obtain ⟨D, ⟨es, clock, since, seen, c0, h1, h2, h3, h4, h5, h6⟩, hl⟩ := h
  exact ⟨D, ⟨es, clock, since, seen, c0, hk.get hb h1, h2, h3, h4, hk.get hr h5, h6⟩, hl⟩
theorem RangeV.map {r cnt : Nat} {left : Lit → Bool} (h : RangeV P k w b r n f left cnt) : MapV P k w b n f := by
  obtain ⟨D, hr, hl⟩ := h
  exact ⟨D, hr.owns, hl⟩
theorem RangeV.left_eq {r cnt : Nat} {left : Lit → Bool} (h : RangeV P k w b r n f left cnt) : w.rangeLeft b r = cnt := by
  obtain ⟨D, hr, hl⟩ := h
  exact hr.left_eq
end Go.Proofs.Ytgbcihbnaecejaa.Q

namespace Go.Proofs.Ytgbcihbnaecejaa.Q
open Go Go.RowKit Go.Maps Go.Proofs.YtgbcihbnaecejaaW.PrintLast
set_option linter.unusedVariables false
structure KeyB (P : Program) (k : TypeId) {κ : Type} (ok : κ → Prop) (enc : κ → Value) (lit : κ → Lit) : Prop where
  K : Keyed P k
  key : ∀ x, ok x → keyOf P k (enc x) = some (lit x)
  inj : ∀ x y, ok x → ok y → lit x = lit y → x = y
  inv : ∀ v kl, keyOf P k v = some kl → ∃ x, ok x ∧ v = enc x ∧ kl = lit x
theorem KeyB.int {P : Program} {k : TypeId} {q : IntKind} (hk : P.underlying k = some (.int q)) : KeyB P k (fun x : Int => (Lit.int q x).wf = true) (fun x => .int q x) (fun x => .int q x) where
  K := int_keyed hk
  key _ h := keyOf_int_mk hk h
  inj _ _ _ _ h := by injection h
  inv v kl h := by
    obtain ⟨x, h1, h2, h3⟩ := Maps.keyOf_int_inv hk h
    exact ⟨x, h3, h1, h2⟩
theorem KeyB.string {P : Program} {k : TypeId} (hk : P.underlying k = some .string) : KeyB P k (fun x : ByteArray => x.size ≤ maxLen) (fun x => .string x) (fun x => .string x.data.toList) where
  K := string_keyed hk
  key _ h := Go.WideMaps.keyOf_string_mk hk h
  inj x y _ _ h := by
    injection h with h
    cases x
    cases y
    congr
    exact Array.toList_inj.1 h
  inv v kl h := by
    obtain ⟨x, h1, h2, h3⟩ := Go.WideMaps.string_of_keyOf hk h
    exact ⟨x, h3, h1, h2⟩
section
variable {P : Program} {k : TypeId} {κ : Type} {ok : κ → Prop} {enc : κ → Value} {lit : κ → Lit} {w : World} {b n : Nat} {g : κ → Option Value}
def MapT (P : Program) (k : TypeId) (ok : κ → Prop) (lit : κ → Lit) (w : World) (b n : Nat) (g : κ → Option Value) : Prop := ∃ f, MapV P k w b n f ∧ ∀ x, ok x → f (lit x) = g x
theorem MapT.made (P : Program) (k : TypeId) (ok : κ → Prop) (lit : κ → Lit) (w : World) : MapT P k ok lit (w.alloc (.map #[] 0)) w.heap.size 0 (fun _ => none) := ⟨_, MapV.made P k w, fun _ _ => rfl⟩
theorem MapT.kb {S : Nat → Prop} {w' : World} (h : MapT P k ok lit w b n g) (hk : KB S w w') (hb : ¬ S b) : MapT P k ok lit w' b n g := by
  obtain ⟨f, h1, h2⟩ := h
  exact ⟨f, h1.kb hk hb, h2⟩
theorem MapT.below {B : Nat} {w' : World} (h : MapT P k ok lit w b n g) (hk : Below B w w') (hb : b < B) : MapT P k ok lit w' b n g := by
  obtain ⟨f, ⟨D, ⟨es, clock, h1, h2, h3, h4⟩, h5⟩, h6⟩ := h
  exact ⟨f, ⟨D, ⟨es, clock, (hk.block b hb).trans h1, h2, h3, h4⟩, h5⟩, h6⟩
theorem MapT.mono (h : MapT P k ok lit w b n g) {m : Nat} (hm : n ≤ m) : MapT P k ok lit w b m g := by
  obtain ⟨f, h1, h2⟩ := h
  exact ⟨f, h1.mono hm, h2⟩
theorem MapT.congr (h : MapT P k ok lit w b n g) {g' : κ → Option Value} (hg : ∀ x, ok x → g x = g' x) : MapT P k ok lit w b n g' := by
  obtain ⟨f, h1, h2⟩ := h
  exact ⟨f, h1, fun x hx => (h2 x hx).trans (hg x hx)⟩
theorem MapT.lt (h : MapT P k ok lit w b n g) : b < w.heap.size := by
  obtain ⟨f, h1, h2⟩ := h
  exact h1.lt
theorem MapT.alloc (h : MapT P k ok lit w b n g) (o : Obj) : MapT P k ok lit (w.alloc o) b n g := h.kb (S := NoB) ((KB.refl _ _).alloc o) (fun h => h)
theorem MapT.drew (h : MapT P k ok lit w b n g) : MapT P k ok lit w.drew b n g := h.kb (S := NoB) ((KB.refl _ _).drew) (fun h => h)
theorem MapT.drewN (h : MapT P k ok lit w b n g) (m : Nat) : MapT P k ok lit (w.drewN m) b n g := h.kb (S := NoB) ((KB.refl _ _).drewN m) (fun h => h)
theorem MapT.look (B : KeyB P k ok enc lit) {t e : TypeId} (h : MapT P k ok lit w b n g) (ht : P.underlying t = some (.map k e)) {z : Value} (hz : (zeroValue e).run P w = .ok z w) {x : κ} (hx : ok x) :
    (Instr.lookup t (.map (some b)) (enc x) false).run P w = .ok ((g x).getD z) w := by
  obtain ⟨f, h1, h2⟩ := h
  rw [← h2 x hx]
  exact h1.look B.K ht hz (B.key x hx)
theorem MapT.look_ok (B : KeyB P k ok enc lit) {t e : TypeId} (h : MapT P k ok lit w b n g) (ht : P.underlying t = some (.map k e)) {z : Value} (hz : (zeroValue e).run P w = .ok z w) {x : κ} (hx : ok x) :
    (Instr.lookup t (.map (some b)) (enc x) true).run P w = .ok (.tuple #[(g x).getD z, .bool (g x).isSome]) w := by
  obtain ⟨f, h1, h2⟩ := h
  rw [← h2 x hx]
  exact h1.look_ok B.K ht hz (B.key x hx)
noncomputable def putT (g : κ → Option Value) (x : κ) (v : Value) : κ → Option Value := fun y => @ite _ (y = x) (Classical.propDecidable _) (some v) (g y)
theorem putT_same (g : κ → Option Value) (x : κ) (v : Value) : putT g x v x = some v := if_pos rfl
theorem putT_ne (g : κ → Option Value) {x y : κ} (v : Value) (h : y ≠ x) : putT g x v y = g y := if_neg h
theorem MapT.store (B : KeyB P k ok enc lit) {t e : TypeId} (h : MapT P k ok lit w b n g) (ht : P.underlying t = some (.map k e)) (hn : n < maxLen) {x : κ} (hx : ok x) (val : Value) :
    ∃ w', (Instr.mapUpdate t (.map (some b)) (enc x) val).run P w = .ok () w' ∧ MapT P k ok lit w' b (n + 1) (putT g x val) ∧ KB (fun i => i = b) w w' := by
  obtain ⟨f, h1, h2⟩ := h
  obtain ⟨w', a1, a2, a3⟩ := h1.store B.K ht hn (B.key x hx) val
  refine ⟨w', a1, ⟨_, a2, fun y hy => ?_⟩, a3⟩
  unfold putL putT
  by_cases e : y = x
  · subst e
    rw [if_pos rfl, if_pos rfl]
  · rw [if_neg e, if_neg (fun hl => e (B.inj y x hy hx hl)), h2 y hy]
def RangeT (P : Program) (k : TypeId) (ok : κ → Prop) (lit : κ → Lit) (w : World) (b r n : Nat) (g : κ → Option Value) (seen : List κ) (cnt : Nat) : Prop :=
  ∃ f left, RangeV P k w b r n f left cnt ∧ (∀ x, ok x → f (lit x) = g x) ∧ (∀ x, ok x → (left (lit x) = true ↔ (g x).isSome = true ∧ x ∉ seen)) ∧ seen.Nodup ∧ ∀ x ∈ seen, ok x ∧ (g x).isSome = true
theorem MapT.range (B : KeyB P k ok enc lit) {t e : TypeId} (h : MapT P k ok lit w b n g) (ht : P.underlying t = some (.map k e)) :
    ∃ w' cnt, (Instr.range t (.map (some b))).run P w = .ok (.pointer (some ⟨w.heap.size, 0, none⟩)) w' ∧ RangeT P k ok lit w' b w.heap.size n g [] cnt ∧ cnt ≤ n ∧ KB NoB w w' ∧ w'.heap.size = w.heap.size + 1 := by
  obtain ⟨f, h1, h2⟩ := h
  obtain ⟨w', left, cnt, a1, a2, a3, a4, a5, a6⟩ := h1.range B.K ht
  refine ⟨w', cnt, a1, ⟨f, left, a2, h2, fun x hx => ?_, List.nodup_nil, by simp⟩, a3, a5, a6⟩
  rw [a4 _ (B.K.key (B.key x hx)), h2 x hx]
  simp
theorem RangeT.next (B : KeyB P k ok enc lit) {r cnt : Nat} {seen : List κ} (h : RangeT P k ok lit w b r n g seen cnt) (ty : TypeId) :
    ((Instr.next (.pointer (some ⟨r, 0, none⟩)) false ty).run P w = .ok (.tuple #[.bool false]) w ∧ ∀ x, ok x → (g x).isSome = true → x ∈ seen) ∨
    ∃ x v w' cnt', ok x ∧ x ∉ seen ∧ g x = some v ∧ (Instr.next (.pointer (some ⟨r, 0, none⟩)) false ty).run P w = .ok (.tuple #[.bool true, enc x, v]) w' ∧
      RangeT P k ok lit w' b r n g (seen ++ [x]) cnt' ∧ cnt' < cnt ∧ KB (fun i => i = r) w w' ∧ w'.heap.size = w.heap.size ∧ (Instr.entry (.pointer (some ⟨r, 0, none⟩))).run P w' = .ok (.tuple #[enc x, v]) w' := by
  obtain ⟨f, left, h1, h2, h3, h4, h5⟩ := h
  rcases h1.next B.K ty with ⟨c0, hl, hrun⟩ | ⟨key, v, kl, w', cnt', a1, a2, a3, a4, a5, a6, a7, a8, a9⟩
  · refine .inl ⟨hrun, fun x hx hg => ?_⟩
    have := h3 x hx
    rw [hl] at this
    exact Classical.byContradiction fun hn => by
      have := this.2 ⟨hg, hn⟩
      cases this
  · obtain ⟨x, hx, rfl, rfl⟩ := B.inv key kl a1
    obtain ⟨hgx, hns⟩ := (h3 x hx).1 a2
    have hv : g x = some v := by rw [← h2 x hx, a3]
    refine .inr ⟨x, v, w', cnt', hx, hns, hv, a4, ⟨f, _, a5, h2, fun y hy => ?_, ?_, ?_⟩, a6, a7, a8, a9⟩
    · rw [Bool.and_eq_true, Bool.not_eq_true', h3 y hy, List.mem_append, List.mem_singleton]
      have hsame : (lit y).sameKey (lit x) = false ↔ y ≠ x := by
        constructor
        · rintro h rfl
          rw [WideAt.sameKey_self (B.K.key a1)] at h
          cases h
        · intro hne
          cases hs : (lit y).sameKey (lit x) with
          | false => rfl
          | true => exact absurd (B.inj y x hy hx (WideAt.sameKey_eq hs)) hne
      rw [hsame]
      constructor
      · rintro ⟨⟨h1, h2⟩, h3⟩
        exact ⟨h1, fun h => h.elim h2 h3⟩
      · rintro ⟨h1, h2⟩
        exact ⟨⟨h1, fun h => h2 (.inl h)⟩, fun h => h2 (.inr h)⟩
    · exact List.nodup_append.2 ⟨h4, by simp, fun a ha c hc => by rw [List.mem_singleton.1 hc]; exact fun e => hns (e ▸ ha)⟩
    · intro y hy
      rcases List.mem_append.1 hy with hy | hy
      · exact h5 y hy
      · rw [List.mem_singleton.1 hy]
        exact ⟨hx, hgx⟩
theorem RangeT.kb {S : Nat → Prop} {r cnt : Nat} {seen : List κ} {w' : World} (h : RangeT P k ok lit w b r n g seen cnt) (hk : KB S w w') (hb : ¬ S b) (hr : ¬ S r) : RangeT P k ok lit w' b r n g seen cnt := by
  obtain ⟨f, left, h1, h2⟩ := h
  exact ⟨f, left, h1.kb hk hb hr, h2⟩
theorem RangeT.map {r cnt : Nat} {seen : List κ} (h : RangeT P k ok lit w b r n g seen cnt) : MapT P k ok lit w b n g := by
  obtain ⟨f, left, h1, h2, h3⟩ := h
  exact ⟨f, h1.map, h2⟩
theorem RangeT.left_eq {r cnt : Nat} {seen : List κ} (h : RangeT P k ok lit w b r n g seen cnt) : w.rangeLeft b r = cnt := by
  obtain ⟨f, left, h1, h2⟩ := h
  exact h1.left_eq
theorem RangeT.nodup {r cnt : Nat} {seen : List κ} (h : RangeT P k ok lit w b r n g seen cnt) : seen.Nodup ∧ ∀ x ∈ seen, ok x ∧ (g x).isSome = true := by
  obtain ⟨f, left, h1, h2, h3, h4, h5⟩ := h
  exact ⟨h4, h5⟩
variable {ops : Array Oper} {rest : List Oper} {o : Oper} {a : Act} {Q : Exit → Act → World → Prop}
theorem wpList_storeT (B : KeyB P k ok enc lit) (hg : o.guard = none) (m x v : Operand) (t e : TypeId) (hop : o.op = Op.mapUpdate t m x v) (ht : P.underlying t = some (.map k e)) (b n : Nat) (g : κ → Option Value) (kx : κ) (val : Value)
    (hm : a.eval m = .map (some b)) (hx : a.eval x = enc kx) (hv : a.eval v = val) (h : MapT P k ok lit w b n g) (hn : n < maxLen) (hok : ok kx)
    (hK : ∀ w', MapT P k ok lit w' b (n + 1) (putT g kx val) → KB (fun i => i = b) w w' → wpList P ops Q rest (a.put o.dst undef) w') : wpList P ops Q (o :: rest) a w := by
  refine wpList_plain hg fun K' hK' => ?_
  obtain ⟨w', hrun, r1, r2⟩ := h.store B ht hn hok val
  unfold Oper.wp
  simp [execOp, hop, hm, hx, hv, hrun, Result.andThen]
  exact hK' _ _ (hK w' r1 r2)
theorem wpList_lookT (B : KeyB P k ok enc lit) (hg : o.guard = none) (m x : Operand) (t e : TypeId) (hop : o.op = Op.lookup t m x false) (ht : P.underlying t = some (.map k e)) (z : Value) (hz : ∀ w, (zeroValue e).run P w = .ok z w) (b n : Nat) (g : κ → Option Value) (kx : κ) (v : Value)
    (hm : a.eval m = .map (some b)) (hx : a.eval x = enc kx) (h : MapT P k ok lit w b n g) (hok : ok kx) (hv : (g kx).getD z = v) (hK : wpList P ops Q rest (a.put o.dst v) w) : wpList P ops Q (o :: rest) a w := by
  refine wpList_plain hg fun K' hK' => ?_
  have hrun := h.look B ht (hz w) hok
  rw [hv] at hrun
  unfold Oper.wp
  simp [execOp, hop, hm, hx, hrun, Result.andThen]
  exact hK' _ _ hK
theorem wpList_lookokT (B : KeyB P k ok enc lit) (hg : o.guard = none) (m x : Operand) (t e : TypeId) (hop : o.op = Op.lookup t m x true) (ht : P.underlying t = some (.map k e)) (z : Value) (hz : ∀ w, (zeroValue e).run P w = .ok z w) (b n : Nat) (g : κ → Option Value) (kx : κ) (v : Value) (c : Bool)
    (hm : a.eval m = .map (some b)) (hx : a.eval x = enc kx) (h : MapT P k ok lit w b n g) (hok : ok kx) (hv : (g kx).getD z = v) (hc : (g kx).isSome = c) (hK : wpList P ops Q rest (a.put o.dst (.tuple #[v, .bool c])) w) : wpList P ops Q (o :: rest) a w := by
  refine wpList_plain hg fun K' hK' => ?_
  have hrun := h.look_ok B ht (hz w) hok
  rw [hv, hc] at hrun
  unfold Oper.wp
  simp [execOp, hop, hm, hx, hrun, Result.andThen]
  exact hK' _ _ hK
theorem wpList_rangeT (B : KeyB P k ok enc lit) (hg : o.guard = none) (m : Operand) (t e : TypeId) (hop : o.op = Op.range t m) (ht : P.underlying t = some (.map k e)) (b n : Nat) (g : κ → Option Value)
    (hm : a.eval m = .map (some b)) (h : MapT P k ok lit w b n g)
    (hK : ∀ w' cnt, RangeT P k ok lit w' b w.heap.size n g [] cnt → cnt ≤ n → KB NoB w w' → w'.heap.size = w.heap.size + 1 → wpList P ops Q rest (a.put o.dst (.pointer (some ⟨w.heap.size, 0, none⟩))) w') : wpList P ops Q (o :: rest) a w := by
  refine wpList_plain hg fun K' hK' => ?_
  obtain ⟨w', cnt, hrun, r1, r2, r3, r4⟩ := h.range B ht
  unfold Oper.wp
  simp [execOp, hop, hm, hrun, Result.andThen]
  exact hK' _ _ (hK w' cnt r1 r2 r3 r4)
theorem wpList_nextT (B : KeyB P k ok enc lit) (hg : o.guard = none) (it : Operand) (hop : o.op = Op.next it false) (b r n : Nat) (g : κ → Option Value) (seen : List κ) (cnt : Nat)
    (hit : a.eval it = .pointer (some ⟨r, 0, none⟩)) (h : RangeT P k ok lit w b r n g seen cnt)
    (hDone : (∀ x, ok x → (g x).isSome = true → x ∈ seen) → wpList P ops Q rest (a.put o.dst (.tuple #[.bool false])) w)
    (hMore : ∀ x v w' cnt', ok x → x ∉ seen → g x = some v → RangeT P k ok lit w' b r n g (seen ++ [x]) cnt' → cnt' < cnt → KB (fun i => i = r) w w' → w'.heap.size = w.heap.size →
      (Instr.entry (.pointer (some ⟨r, 0, none⟩))).run P w' = .ok (.tuple #[enc x, v]) w' → wpList P ops Q rest (a.put o.dst (.tuple #[.bool true, enc x, v])) w') : wpList P ops Q (o :: rest) a w := by
  refine wpList_plain hg fun K' hK' => ?_
  unfold Oper.wp
  rcases h.next B o.type with ⟨hrun, hall⟩ | ⟨x, v, w', cnt', h1, h2, h3, hrun, h4, h5, h6, h7, h8⟩
  · simp [execOp, hop, hit, hrun, Result.andThen]
    exact hK' _ _ (hDone hall)
  · simp [execOp, hop, hit, hrun, Result.andThen]
    exact hK' _ _ (hMore x v w' cnt' h1 h2 h3 h4 h5 h6 h7 h8)
end
end Go.Proofs.Ytgbcihbnaecejaa.Q

namespace Go.Proofs.Ytgbcihbnaecejaa.Q
open Go Go.RowKit Go.Maps Go.Proofs.YtgbcihbnaecejaaW.PrintWords Go.Proofs.YtgbcihbnaecejaaW.PrintLast Go.Proofs.YtgbcihbnaecejaaW.PrintMore
set_option linter.unusedVariables false
set_option linter.unusedSimpArgs false
abbrev okI (x : Int) : Prop := (Lit.int .i64 x).wf = true
abbrev litI (x : Int) : Lit := .int .i64 x
abbrev okS (x : ByteArray) : Prop := x.size ≤ maxLen
abbrev litS (x : ByteArray) : Lit := .string x.data.toList
theorem keyI : KeyB Try.prog 3 okI (fun x => .int .i64 x) litI := KeyB.int Try.underlying3
theorem keyS : KeyB Try.prog 9 okS (fun x => .string x) litS := KeyB.string Try.underlying9
theorem zeroI (w : World) : (zeroValue 3).run Try.prog w = .ok (.int .i64 0) w := by kernel_rfl
theorem zeroP (w : World) : (zeroValue 48).run Try.prog w = .ok (.agg #[.string ⟨#[]⟩, .string ⟨#[]⟩]) w := by kernel_rfl
abbrev pa (p c : ByteArray) : Value := .agg #[.string p, .string c]
def G1 (pre : List Od) (g : Int → Option Value) : Prop := ∀ n, (∃ x ∈ pre, x.f0 = n ∧ g n = some (pa x.f1 x.f2)) ∨ ((∀ x ∈ pre, x.f0 ≠ n) ∧ g n = none)
def G2 (pre : List Od) (g : ByteArray → Option Value) : Prop := ∀ p, (g p).getD (.int .i64 0) = .int .i64 (nums p [] pre)
def VInv (w : World) (pre : List Od) (k : Nat) (wr : World) : Prop :=
  validFrom [] pre = true ∧ (∃ g, MapT Try.prog 3 okI litI wr w.heap.size k g ∧ G1 pre g) ∧ (∃ g, MapT Try.prog 9 okS litS wr (w.heap.size + 1) k g ∧ G2 pre g) ∧ Below w.heap.size w wr
theorem od_blk {W : World} {b : Nat} {o : Od} (h : W.heap[b]? = some (.cells #[.int .i64 o.f0, .string o.f1, .string o.f2, .int .i64 o.f3, .int .i64 o.f4, .int .i64 o.f5, .int .i64 o.f6, .bool o.f7] 24 (0, 0))) : W.cell? ⟨b, 0, none⟩ = some (.int .i64 o.f0) ∧ W.cell? ⟨b, 1, none⟩ = some (.string o.f1) ∧ W.cell? ⟨b, 2, none⟩ = some (.string o.f2) ∧ W.cell? ⟨b, 3, none⟩ = some (.int .i64 o.f3) ∧ W.cell? ⟨b, 4, none⟩ = some (.int .i64 o.f4) ∧ W.cell? ⟨b, 5, none⟩ = some (.int .i64 o.f5) ∧ W.cell? ⟨b, 6, none⟩ = some (.int .i64 o.f6) ∧ W.cell? ⟨b, 7, none⟩ = some (.bool o.f7) :=
  ⟨blk_cell h 0, blk_cell h 1, blk_cell h 2, blk_cell h 3, blk_cell h 4, blk_cell h 5, blk_cell h 6, blk_cell h 7⟩
theorem G1.keep {pre : List Od} {g : Int → Option Value} {o x : Od} (h : G1 pre g) (hx : x ∈ pre) (he : x.f0 = o.f0) : G1 (pre ++ [o]) g := by
  intro n
  rcases h n with ⟨y, a, b, c⟩ | ⟨a, b⟩
  · exact .inl ⟨y, by simp [a], b, c⟩
  · refine .inr ⟨fun y hy => ?_, b⟩
    rcases List.mem_append.1 hy with hy | hy
    · exact a y hy
    · rw [List.mem_singleton.1 hy, ← he]
      exact a x hx
theorem G1.put {pre : List Od} {g : Int → Option Value} {o : Od} (h : G1 pre g) : G1 (pre ++ [o]) (putT g o.f0 (pa o.f1 o.f2)) := by
  intro n
  by_cases e : n = o.f0
  · exact .inl ⟨o, by simp, e.symm, by rw [e, putT_same]⟩
  · rw [putT_ne _ _ e]
    rcases h n with ⟨y, a, b, c⟩ | ⟨a, b⟩
    · exact .inl ⟨y, by simp [a], b, c⟩
    · refine .inr ⟨fun y hy => ?_, b⟩
      rcases List.mem_append.1 hy with hy | hy
      · exact a y hy
      · rw [List.mem_singleton.1 hy]
        exact fun h => e h.symm
theorem G2.keep {pre : List Od} {g : ByteArray → Option Value} {o : Od} (h : G2 pre g) (hn : newIn pre o = false) : G2 (pre ++ [o]) g := by
  intro p
  rw [h p, nums_snoc, hn]
  simp
theorem G2.put {pre : List Od} {g : ByteArray → Option Value} {o : Od} (h : G2 pre g) (hn : newIn pre o = true) : G2 (pre ++ [o]) (putT g o.f1 (.int .i64 ((nums o.f1 [] pre : Nat) + 1 : Int))) := by
  intro p
  rw [nums_snoc, hn]
  by_cases e : p = o.f1
  · subst e
    rw [putT_same]
    simp
  · rw [putT_ne _ _ e, h p, if_neg (fun h => e h.1.symm), Nat.add_zero]
set_option maxRecDepth 100000 in
set_option maxHeartbeats 4000000 in
theorem valid_any (A0 : Option Addr) (c0 : Nat) (l0 : List Od) (w : World) (hr0 : Kd.C k24 w A0 l0.length l0) (hc0 : l0.length ≤ c0) :
    Calls Try.prog 14 #[.slice A0 l0.length c0] w fun e w' => e = .returned (.bool (valid l0)) ∧ Below w.heap.size w w' := by
  have HC := Lib.hid hr0
  have HL := Lib.hid hc0
  clear hr0 hc0
  by_cases hlen : l0.length ≤ 400
  · have hmm := @run_makeMap Try.prog
    go_enter Try.func14, Try.ntmps14
    go_wp2
    go_loopw [17] (fun i wr => ∃ k : Nat, k ≤ l0.length ∧ i = .int .i64 k ∧ VInv w (l0.take k) k wr) (fun i _ => l0.length - (intOf i).toNat)
    case atStart => 
      refine ⟨0, Nat.zero_le _, rfl, rfl, ⟨_, (MapT.made _ _ _ _ _).alloc _, fun n => .inr ⟨by simp, rfl⟩⟩, ⟨fun _ => none, ?_, fun p => rfl⟩, below_alloc (below_alloc (Below.refl _ _) _) _⟩
      have := MapT.made Try.prog 9 okS litS (w.alloc (.map #[] 0))
      rwa [World.size_alloc] at this
    case round =>
      obtain ⟨k, hk, rfl, hI⟩ := hrel
      by_cases hlt : k < l0.length
      · have HB := Lib.hid hI.2.2.2
        obtain ⟨ad, rfl, a0, a1, a2, a3, a4, a5, a6, a7⟩ := od_cells (Kd.C_below HC.out HB.out) hlt
        generalize ho : odAt l0 k = o at *
        have HO := Lib.hid ho
        have HI := Lib.hid hI
        clear ho hI
        cases hf : formedOk o with
        | false =>
          have HF := Lib.hid (formed_b hf)
          have HV := Lib.hid (valid_stop hlt (by rw [HO.out]; unfold okNext; rw [hf]; rfl))
          clear hf
          go_wp2_with fail
          refine start_ (n := 18) (S := fun W => W.heap[wr.heap.size]? = some (.cells #[.int .i64 o.f0, .string o.f1, .string o.f2, .int .i64 o.f3, .int .i64 o.f4, .int .i64 o.f5, .int .i64 o.f6, .bool o.f7] 24 (0, 0)) ∧ Below wr.heap.size wr W) (ds := []) #[false, false, false, false, false, false, false, false, false, false, false, false, false, false, false, false, false, false] (by kernel_rfl) rfl rfl ⟨blk_drew (World.alloc_heap_new _ _), below_drew1 (below_alloc (Below.refl _ _) _)⟩ (fun hHeld => ?_)
          refine take_ (i := 0) (N := (some 22)) (v := ?_) (a' := ?_) #[true, false, false, false, false, false, false, false, false, false, false, false, false, false, false, false, false, false] rfl rfl (by kernel_rfl) (fun _ _ _ h => h) (Or.inl ⟨by rfl, ?_⟩) hHeld ?_ ?_
          rotate_left
          · rintro w' ⟨s, -⟩
            obtain ⟨c0, c1, c2, c3, c4, c5, c6, c7⟩ := od_blk s
            clear s
            go_simp
            with_reducible rfl
          rotate_left
          · simp only [Act.put, List.setIfInBounds_toArray, List.set_cons_zero, List.set_cons_succ, i64_w, i32_w]
            rfl
          refine one_ (i := 1) (N := (some 23)) #[true, true, false, false, false, false, false, false, false, false, false, false, false, false, false, false, false, false] rfl rfl (by kernel_rfl) (by decide) (fun K hK => ?_)
          refine goes_ Try.func20 (by kernel_rfl) rfl #[odV o] (by rfl) rfl rfl (by (try simp only [List.map_toArray, List.map_cons, List.map_nil]); first | done | rfl) ?_
          with_reducible refine (HF.out _).mono ?_
          rintro e w' ⟨rfl, hb⟩
          refine ⟨_, rfl, ?_⟩
          refine hK.out _ _ ⟨blk_below hHeld.1 hb, below_step hHeld.2 hb⟩ (fun hHeld => ?_)
          clear hK K
          clear hb
          refine norm_ (a' := ?_) ?_ ?_
          rotate_left
          · show Act.put _ (some 23) _ = _
            simp only [Act.put, List.setIfInBounds_toArray, List.set_cons_zero, List.set_cons_succ, i64_w, i32_w]
            rfl
          refine pure_ (i := 2) (N := (some 24)) (v := ?_) (a' := ?_) #[true, true, true, false, false, false, false, false, false, false, false, false, false, false, false, false, false, false] rfl rfl (by kernel_rfl) (fun _ _ _ h => h) (Or.inl ⟨by rfl, ?_⟩) ?_ ?_
          rotate_left
          · intro w'
            go_simp
            with_reducible rfl
          rotate_left
          · simp only [Act.put, List.setIfInBounds_toArray, List.set_cons_zero, List.set_cons_succ, i64_w, i32_w]
            rfl
          refine pure_ (i := 3) (N := (some 25)) (v := ?_) (a' := ?_) #[true, true, true, true, false, false, false, false, false, false, false, false, false, false, false, false, false, false] rfl rfl (by kernel_rfl) (fun _ _ _ h => h) (Or.inl ⟨by rfl, ?_⟩) ?_ ?_
          rotate_left
          · intro w'
            go_simp
            with_reducible rfl
          rotate_left
          · simp only [Act.put, List.setIfInBounds_toArray, List.set_cons_zero, List.set_cons_succ, i64_w, i32_w]
            rfl
          refine pure_ (i := 4) (N := (some 26)) (v := undef) (a' := ?_) #[true, true, true, true, true, false, false, false, false, false, false, false, false, false, false, false, false, false] rfl rfl (by kernel_rfl) (fun _ _ _ h => h) (Or.inr ⟨by rfl, rfl⟩) ?_ ?_
          rotate_left
          · simp only [Act.put, List.setIfInBounds_toArray, List.set_cons_zero, List.set_cons_succ, i64_w, i32_w]
            rfl
          refine pure_ (i := 5) (N := (some 27)) (v := undef) (a' := ?_) #[true, true, true, true, true, true, false, false, false, false, false, false, false, false, false, false, false, false] rfl rfl (by kernel_rfl) (fun _ _ _ h => h) (Or.inr ⟨by rfl, rfl⟩) ?_ ?_
          rotate_left
          · simp only [Act.put, List.setIfInBounds_toArray, List.set_cons_zero, List.set_cons_succ, i64_w, i32_w]
            rfl
          refine pure_ (i := 6) (N := (some 28)) (v := undef) (a' := ?_) #[true, true, true, true, true, true, true, false, false, false, false, false, false, false, false, false, false, false] rfl rfl (by kernel_rfl) (fun _ _ _ h => h) (Or.inr ⟨by rfl, rfl⟩) ?_ ?_
          rotate_left
          · simp only [Act.put, List.setIfInBounds_toArray, List.set_cons_zero, List.set_cons_succ, i64_w, i32_w]
            rfl
          refine pure_ (i := 7) (N := (some 29)) (v := undef) (a' := ?_) #[true, true, true, true, true, true, true, true, false, false, false, false, false, false, false, false, false, false] rfl rfl (by kernel_rfl) (fun _ _ _ h => h) (Or.inr ⟨by rfl, rfl⟩) ?_ ?_
          rotate_left
          · simp only [Act.put, List.setIfInBounds_toArray, List.set_cons_zero, List.set_cons_succ, i64_w, i32_w]
            rfl
          refine pure_ (i := 8) (N := (some 30)) (v := undef) (a' := ?_) #[true, true, true, true, true, true, true, true, true, false, false, false, false, false, false, false, false, false] rfl rfl (by kernel_rfl) (fun _ _ _ h => h) (Or.inr ⟨by rfl, rfl⟩) ?_ ?_
          rotate_left
          · simp only [Act.put, List.setIfInBounds_toArray, List.set_cons_zero, List.set_cons_succ, i64_w, i32_w]
            rfl
          refine pure_ (i := 9) (N := (some 31)) (v := undef) (a' := ?_) #[true, true, true, true, true, true, true, true, true, true, false, false, false, false, false, false, false, false] rfl rfl (by kernel_rfl) (fun _ _ _ h => h) (Or.inr ⟨by rfl, rfl⟩) ?_ ?_
          rotate_left
          · simp only [Act.put, List.setIfInBounds_toArray, List.set_cons_zero, List.set_cons_succ, i64_w, i32_w]
            rfl
          refine pure_ (i := 10) (N := (some 32)) (v := undef) (a' := ?_) #[true, true, true, true, true, true, true, true, true, true, true, false, false, false, false, false, false, false] rfl rfl (by kernel_rfl) (fun _ _ _ h => h) (Or.inr ⟨by rfl, rfl⟩) ?_ ?_
          rotate_left
          · simp only [Act.put, List.setIfInBounds_toArray, List.set_cons_zero, List.set_cons_succ, i64_w, i32_w]
            rfl
          refine pure_ (i := 11) (N := (some 33)) (v := undef) (a' := ?_) #[true, true, true, true, true, true, true, true, true, true, true, true, false, false, false, false, false, false] rfl rfl (by kernel_rfl) (fun _ _ _ h => h) (Or.inr ⟨by rfl, rfl⟩) ?_ ?_
          rotate_left
          · simp only [Act.put, List.setIfInBounds_toArray, List.set_cons_zero, List.set_cons_succ, i64_w, i32_w]
            rfl
          refine pure_ (i := 12) (N := (some 34)) (v := undef) (a' := ?_) #[true, true, true, true, true, true, true, true, true, true, true, true, true, false, false, false, false, false] rfl rfl (by kernel_rfl) (fun _ _ _ h => h) (Or.inr ⟨by rfl, rfl⟩) ?_ ?_
          rotate_left
          · simp only [Act.put, List.setIfInBounds_toArray, List.set_cons_zero, List.set_cons_succ, i64_w, i32_w]
            rfl
          refine pure_ (i := 13) (N := (some 35)) (v := undef) (a' := ?_) #[true, true, true, true, true, true, true, true, true, true, true, true, true, true, false, false, false, false] rfl rfl (by kernel_rfl) (fun _ _ _ h => h) (Or.inr ⟨by rfl, rfl⟩) ?_ ?_
          rotate_left
          · simp only [Act.put, List.setIfInBounds_toArray, List.set_cons_zero, List.set_cons_succ, i64_w, i32_w]
            rfl
          refine pure_ (i := 14) (N := (some 36)) (v := undef) (a' := ?_) #[true, true, true, true, true, true, true, true, true, true, true, true, true, true, true, false, false, false] rfl rfl (by kernel_rfl) (fun _ _ _ h => h) (Or.inr ⟨by rfl, rfl⟩) ?_ ?_
          rotate_left
          · simp only [Act.put, List.setIfInBounds_toArray, List.set_cons_zero, List.set_cons_succ, i64_w, i32_w]
            rfl
          refine pure_ (i := 15) (N := (some 37)) (v := undef) (a' := ?_) #[true, true, true, true, true, true, true, true, true, true, true, true, true, true, true, true, false, false] rfl rfl (by kernel_rfl) (fun _ _ _ h => h) (Or.inr ⟨by rfl, rfl⟩) ?_ ?_
          rotate_left
          · simp only [Act.put, List.setIfInBounds_toArray, List.set_cons_zero, List.set_cons_succ, i64_w, i32_w]
            rfl
          refine pure_ (i := 16) (N := (some 38)) (v := undef) (a' := ?_) #[true, true, true, true, true, true, true, true, true, true, true, true, true, true, true, true, true, false] rfl rfl (by kernel_rfl) (fun _ _ _ h => h) (Or.inr ⟨by rfl, rfl⟩) ?_ ?_
          rotate_left
          · simp only [Act.put, List.setIfInBounds_toArray, List.set_cons_zero, List.set_cons_succ, i64_w, i32_w]
            rfl
          refine pure_ (i := 17) (N := (some 39)) (v := ?_) (a' := ?_) #[true, true, true, true, true, true, true, true, true, true, true, true, true, true, true, true, true, true] rfl rfl (by kernel_rfl) (fun _ _ _ h => h) (Or.inl ⟨by rfl, ?_⟩) ?_ ?_
          rotate_left
          · intro w'
            go_simp
            with_reducible rfl
          rotate_left
          · simp only [Act.put, List.setIfInBounds_toArray, List.set_cons_zero, List.set_cons_succ, i64_w, i32_w]
            rfl
          refine done_ (by kernel_rfl) ?_
          go_wp2_with fail
          go_ret
          exact ⟨by rw [HV.out]; rfl, below_step HB.out hHeld.2⟩
        | true =>
          have HF := Lib.hid (formed_b hf)
          have HFF := Lib.hid hf
          clear hf
          by_cases hk0 : k = 0
          · have hz : decide (0 < k) = false := decide_eq_false (by omega)
            have HLL := Lib.hid (show lastLe (l0.take k) o = true from by rw [← HO.out, lastLe_at hlt]; exact decide_eq_true (fun h => by omega))
            clear hk0
            go_wp2_with fail
            refine start_ (n := 18) (S := fun W => W.heap[wr.heap.size]? = some (.cells #[.int .i64 o.f0, .string o.f1, .string o.f2, .int .i64 o.f3, .int .i64 o.f4, .int .i64 o.f5, .int .i64 o.f6, .bool o.f7] 24 (0, 0)) ∧ Below wr.heap.size wr W) (ds := []) #[false, false, false, false, false, false, false, false, false, false, false, false, false, false, false, false, false, false] (by kernel_rfl) rfl rfl ⟨blk_drew (World.alloc_heap_new _ _), below_drew1 (below_alloc (Below.refl _ _) _)⟩ (fun hHeld => ?_)
            refine take_ (i := 0) (N := (some 22)) (v := ?_) (a' := ?_) #[true, false, false, false, false, false, false, false, false, false, false, false, false, false, false, false, false, false] rfl rfl (by kernel_rfl) (fun _ _ _ h => h) (Or.inl ⟨by rfl, ?_⟩) hHeld ?_ ?_
            rotate_left
            · rintro w' ⟨s, -⟩
              obtain ⟨c0, c1, c2, c3, c4, c5, c6, c7⟩ := od_blk s
              clear s
              go_simp
              with_reducible rfl
            rotate_left
            · simp only [Act.put, List.setIfInBounds_toArray, List.set_cons_zero, List.set_cons_succ, i64_w, i32_w]
              rfl
            refine one_ (i := 1) (N := (some 23)) #[true, true, false, false, false, false, false, false, false, false, false, false, false, false, false, false, false, false] rfl rfl (by kernel_rfl) (by decide) (fun K hK => ?_)
            refine goes_ Try.func20 (by kernel_rfl) rfl #[odV o] (by rfl) rfl rfl (by (try simp only [List.map_toArray, List.map_cons, List.map_nil]); first | done | rfl) ?_
            with_reducible refine (HF.out _).mono ?_
            rintro e w' ⟨rfl, hb⟩
            refine ⟨_, rfl, ?_⟩
            refine hK.out _ _ ⟨blk_below hHeld.1 hb, below_step hHeld.2 hb⟩ (fun hHeld => ?_)
            clear hK K
            clear hb
            refine norm_ (a' := ?_) ?_ ?_
            rotate_left
            · show Act.put _ (some 23) _ = _
              simp only [Act.put, List.setIfInBounds_toArray, List.set_cons_zero, List.set_cons_succ, i64_w, i32_w]
              rfl
            refine pure_ (i := 2) (N := (some 24)) (v := ?_) (a' := ?_) #[true, true, true, false, false, false, false, false, false, false, false, false, false, false, false, false, false, false] rfl rfl (by kernel_rfl) (fun _ _ _ h => h) (Or.inl ⟨by rfl, ?_⟩) ?_ ?_
            rotate_left
            · intro w'
              go_simp
              with_reducible rfl
            rotate_left
            · simp only [Act.put, List.setIfInBounds_toArray, List.set_cons_zero, List.set_cons_succ, i64_w, i32_w]
              rfl
            refine pure_ (i := 3) (N := (some 25)) (v := ?_) (a' := ?_) #[true, true, true, true, false, false, false, false, false, false, false, false, false, false, false, false, false, false] rfl rfl (by kernel_rfl) (fun _ _ _ h => h) (Or.inl ⟨by rfl, ?_⟩) ?_ ?_
            rotate_left
            · intro w'
              go_simp
              with_reducible rfl
            rotate_left
            · simp only [Act.put, List.setIfInBounds_toArray, List.set_cons_zero, List.set_cons_succ, i64_w, i32_w]
              rfl
            refine pure_ (i := 4) (N := (some 26)) (v := ?_) (a' := ?_) #[true, true, true, true, true, false, false, false, false, false, false, false, false, false, false, false, false, false] rfl rfl (by kernel_rfl) (fun _ _ _ h => h) (Or.inl ⟨by rfl, ?_⟩) ?_ ?_
            rotate_left
            · intro w'
              go_simp
              with_reducible rfl
            rotate_left
            · simp only [Act.put, List.setIfInBounds_toArray, List.set_cons_zero, List.set_cons_succ, i64_w, i32_w]
              rfl
            refine pure_ (i := 5) (N := (some 27)) (v := ?_) (a' := ?_) #[true, true, true, true, true, true, false, false, false, false, false, false, false, false, false, false, false, false] rfl rfl (by kernel_rfl) (fun _ _ _ h => h) (Or.inl ⟨by rfl, ?_⟩) ?_ ?_
            rotate_left
            · intro w'
              go_simp
              with_reducible rfl
            rotate_left
            · simp only [Act.put, List.setIfInBounds_toArray, List.set_cons_zero, List.set_cons_succ, i64_w, i32_w]
              rfl
            refine pure_ (i := 6) (N := (some 28)) (v := ?_) (a' := ?_) #[true, true, true, true, true, true, true, false, false, false, false, false, false, false, false, false, false, false] rfl rfl (by kernel_rfl) (fun _ _ _ h => h) (Or.inl ⟨by rfl, ?_⟩) ?_ ?_
            rotate_left
            · intro w'
              go_simp
              with_reducible rfl
            rotate_left
            · simp only [Act.put, List.setIfInBounds_toArray, List.set_cons_zero, List.set_cons_succ, i64_w, i32_w]
              rfl
            refine pure_ (i := 7) (N := (some 29)) (v := undef) (a' := ?_) #[true, true, true, true, true, true, true, true, false, false, false, false, false, false, false, false, false, false] rfl rfl (by kernel_rfl) (fun _ _ _ h => h) (Or.inr ⟨by rfl, rfl⟩) ?_ ?_
            rotate_left
            · simp only [Act.put, List.setIfInBounds_toArray, List.set_cons_zero, List.set_cons_succ, i64_w, i32_w]
              rfl
            refine pure_ (i := 8) (N := (some 30)) (v := undef) (a' := ?_) #[true, true, true, true, true, true, true, true, true, false, false, false, false, false, false, false, false, false] rfl rfl (by kernel_rfl) (fun _ _ _ h => h) (Or.inr ⟨by rfl, rfl⟩) ?_ ?_
            rotate_left
            · simp only [Act.put, List.setIfInBounds_toArray, List.set_cons_zero, List.set_cons_succ, i64_w, i32_w]
              rfl
            refine pure_ (i := 9) (N := (some 31)) (v := undef) (a' := ?_) #[true, true, true, true, true, true, true, true, true, true, false, false, false, false, false, false, false, false] rfl rfl (by kernel_rfl) (fun _ _ _ h => h) (Or.inr ⟨by rfl, rfl⟩) ?_ ?_
            rotate_left
            · simp only [Act.put, List.setIfInBounds_toArray, List.set_cons_zero, List.set_cons_succ, i64_w, i32_w]
              rfl
            refine pure_ (i := 10) (N := (some 32)) (v := undef) (a' := ?_) #[true, true, true, true, true, true, true, true, true, true, true, false, false, false, false, false, false, false] rfl rfl (by kernel_rfl) (fun _ _ _ h => h) (Or.inr ⟨by rfl, rfl⟩) ?_ ?_
            rotate_left
            · simp only [Act.put, List.setIfInBounds_toArray, List.set_cons_zero, List.set_cons_succ, i64_w, i32_w]
              rfl
            refine pure_ (i := 11) (N := (some 33)) (v := undef) (a' := ?_) #[true, true, true, true, true, true, true, true, true, true, true, true, false, false, false, false, false, false] rfl rfl (by kernel_rfl) (fun _ _ _ h => h) (Or.inr ⟨by rfl, rfl⟩) ?_ ?_
            rotate_left
            · simp only [Act.put, List.setIfInBounds_toArray, List.set_cons_zero, List.set_cons_succ, i64_w, i32_w]
              rfl
            refine pure_ (i := 12) (N := (some 34)) (v := undef) (a' := ?_) #[true, true, true, true, true, true, true, true, true, true, true, true, true, false, false, false, false, false] rfl rfl (by kernel_rfl) (fun _ _ _ h => h) (Or.inr ⟨by rfl, rfl⟩) ?_ ?_
            rotate_left
            · simp only [Act.put, List.setIfInBounds_toArray, List.set_cons_zero, List.set_cons_succ, i64_w, i32_w]
              rfl
            refine pure_ (i := 13) (N := (some 35)) (v := undef) (a' := ?_) #[true, true, true, true, true, true, true, true, true, true, true, true, true, true, false, false, false, false] rfl rfl (by kernel_rfl) (fun _ _ _ h => h) (Or.inr ⟨by rfl, rfl⟩) ?_ ?_
            rotate_left
            · simp only [Act.put, List.setIfInBounds_toArray, List.set_cons_zero, List.set_cons_succ, i64_w, i32_w]
              rfl
            refine pure_ (i := 14) (N := (some 36)) (v := undef) (a' := ?_) #[true, true, true, true, true, true, true, true, true, true, true, true, true, true, true, false, false, false] rfl rfl (by kernel_rfl) (fun _ _ _ h => h) (Or.inr ⟨by rfl, rfl⟩) ?_ ?_
            rotate_left
            · simp only [Act.put, List.setIfInBounds_toArray, List.set_cons_zero, List.set_cons_succ, i64_w, i32_w]
              rfl
            refine pure_ (i := 15) (N := (some 37)) (v := undef) (a' := ?_) #[true, true, true, true, true, true, true, true, true, true, true, true, true, true, true, true, false, false] rfl rfl (by kernel_rfl) (fun _ _ _ h => h) (Or.inr ⟨by rfl, rfl⟩) ?_ ?_
            rotate_left
            · simp only [Act.put, List.setIfInBounds_toArray, List.set_cons_zero, List.set_cons_succ, i64_w, i32_w]
              rfl
            refine pure_ (i := 16) (N := (some 38)) (v := ?_) (a' := ?_) #[true, true, true, true, true, true, true, true, true, true, true, true, true, true, true, true, true, false] rfl rfl (by kernel_rfl) (fun _ _ _ h => h) (Or.inl ⟨by rfl, ?_⟩) ?_ ?_
            rotate_left
            · intro w'
              go_simp
              with_reducible rfl
            rotate_left
            · simp only [Act.put, List.setIfInBounds_toArray, List.set_cons_zero, List.set_cons_succ, i64_w, i32_w]
              rfl
            refine pure_ (i := 17) (N := (some 39)) (v := ?_) (a' := ?_) #[true, true, true, true, true, true, true, true, true, true, true, true, true, true, true, true, true, true] rfl rfl (by kernel_rfl) (fun _ _ _ h => h) (Or.inl ⟨by rfl, ?_⟩) ?_ ?_
            rotate_left
            · intro w'
              go_simp
              with_reducible rfl
            rotate_left
            · simp only [Act.put, List.setIfInBounds_toArray, List.set_cons_zero, List.set_cons_succ, i64_w, i32_w]
              rfl
            refine done_ (by kernel_rfl) ?_
            have HS := Lib.hid hHeld
            clear hHeld
            obtain ⟨s, sb⟩ := HS.out
            obtain ⟨v0, v1, v2, v3, v4, v5, v6, v7⟩ := od_blk s
            have hsz := (Array.getElem?_eq_some_iff.1 s).1
            clear s sb
            obtain ⟨hva, ⟨g1, hm1, hg1⟩, ⟨g2, hm2, hg2⟩, hbw⟩ := HI.out
            have hff := FOk.of HFF.out
            have hn1 := hg1 o.f0
            have hn2 := hg2 o.f1
            have h16 := few_of hva o.f1
            have HWR := hm2.lt
            have HM1 := Lib.hid (hm1.below HS.out.2 hm1.lt)
            have HM2 := Lib.hid (hm2.below HS.out.2 hm2.lt)
            have HG := Lib.hid (And.intro hg1 (And.intro hg2 hva))
            have okn : okI o.f0 := WalkArith.wf_i64 (by have := hff.f0; omega)
            have okp : okS o.f1 := by have := hff.f1; show _ ≤ maxLen; unfold maxLen; omega
            have HOK := Lib.hid (And.intro okn okp)
            have hkm : k < maxLen ∧ k + 1 < maxLen := by unfold maxLen; omega
            have HKM := Lib.hid hkm
            generalize hN : nums o.f1 [] (l0.take k) = nn at *
            have HN := Lib.hid hN
            have HN2 := Lib.hid hn2
            have HBB := Lib.hid (below_step HB.out HS.out.2)
            clear hva hm1 hg1 hm2 hg2 hbw hff okn okp hN hn2 hkm
            rcases hn1 with ⟨x, hx, hxn, hgx⟩ | ⟨hne, hgx⟩
            · have HX := Lib.hid (And.intro hx hxn)
              have HGX := Lib.hid hgx
              have h17 : ¬ (16 : Int) < (nn : Int) := by omega
              clear hx hxn hgx
              by_cases hsame : x.f1 = o.f1 ∧ x.f2 = o.f2
              · have HSA := Lib.hid hsame
                clear hsame
                go_wp2_with (first
                  | (at_lookup; refine wpList_lookokT keyI rfl _ _ 45 48 rfl Try.underlying45 _ zeroP w.heap.size k g1 o.f0 (pa o.f1 o.f2) true rfl rfl (HM1.out.alloc _) HOK.out.1 (by rw [HGX.out, HSA.out.1, HSA.out.2]; rfl) (by rw [HGX.out]; rfl) ?_)
                  | (at_lookup; refine wpList_lookT keyS rfl _ _ 46 3 rfl Try.underlying46 _ zeroI (w.heap.size + 1) k g2 o.f1 (.int .i64 nn) rfl rfl ((HM2.out.alloc _).alloc _) HOK.out.2 HN2.out ?_)
                  | go_in)
                go_roundw
                case rel =>
                  refine ⟨k + 1, by omega, by go_num, validFrom_next hlt HG.out.2.2 (by rw [HO.out]; exact okNext_old HG.out.2.2 HFF.out HLL.out HX.out.1 HX.out.2 HSA.out), ⟨g1, ((HM1.out.alloc _).alloc _).mono (by omega), ?_⟩, ⟨g2, ((HM2.out.alloc _).alloc _).mono (by omega), ?_⟩, below_alloc (below_alloc HBB.out _) _⟩
                  · rw [take_odAt hlt, HO.out]
                    exact HG.out.1.keep HX.out.1 HX.out.2
                  · rw [take_odAt hlt, HO.out]
                    exact HG.out.2.1.keep (newIn_false HX.out.1 HX.out.2)
                case measure => simp [intOf]; omega
              · have HV := Lib.hid (valid_stop hlt (by rw [HO.out]; exact okNext_diff HX.out.1 HX.out.2 hsame))
                by_cases h1 : x.f1 = o.f1
                · have ne : ¬ x.f2.toList = o.f2.toList := fun h => hsame ⟨h1, str_eq.1 h⟩
                  have H1 := Lib.hid h1
                  clear hsame h1
                  go_wp2_with (first
                    | (at_lookup; refine wpList_lookokT keyI rfl _ _ 45 48 rfl Try.underlying45 _ zeroP w.heap.size k g1 o.f0 (pa o.f1 x.f2) true rfl rfl (HM1.out.alloc _) HOK.out.1 (by rw [HGX.out, H1.out]; rfl) (by rw [HGX.out]; rfl) ?_)
                    | go_in)
                  go_ret
                  exact ⟨by rw [HV.out]; rfl, below_alloc (below_alloc HBB.out _) _⟩
                · have ne : ¬ x.f1.toList = o.f1.toList := fun h => h1 (str_eq.1 h)
                  clear hsame h1
                  go_wp2_with (first
                    | (at_lookup; refine wpList_lookokT keyI rfl _ _ 45 48 rfl Try.underlying45 _ zeroP w.heap.size k g1 o.f0 (pa x.f1 x.f2) true rfl rfl (HM1.out.alloc _) HOK.out.1 (by rw [HGX.out]; rfl) (by rw [HGX.out]; rfl) ?_)
                    | go_in)
                  go_ret
                  exact ⟨by rw [HV.out]; rfl, below_alloc (below_alloc HBB.out _) _⟩
            · have HNE := Lib.hid hne
              have HGX := Lib.hid hgx
              have HNX := Lib.hid (newIn_iff.2 hne)
              clear hne hgx
              by_cases h17 : nn + 1 ≤ 16
              · have h18 : ¬ (16 : Int) < (nn : Int) + 1 := by omega
                go_wp2_with (first
                  | (at_lookup; refine wpList_lookokT keyI rfl _ _ 45 48 rfl Try.underlying45 _ zeroP w.heap.size k g1 o.f0 (.agg #[.string ⟨#[]⟩, .string ⟨#[]⟩]) false rfl rfl (HM1.out.alloc _) HOK.out.1 (by rw [HGX.out]; rfl) (by rw [HGX.out]; rfl) ?_)
                  | (at_mapUpdate; refine wpList_storeT keyI rfl _ _ _ 45 48 rfl Try.underlying45 w.heap.size k g1 o.f0 (pa o.f1 o.f2) rfl rfl rfl ((HM1.out.alloc _).alloc _) HKM.out.1 HOK.out.1 ?_; intro w1 m1 k1; have y1 := k1.cell (a := ⟨wr.heap.size, 1, none⟩) (show ¬ wr.heap.size = w.heap.size by omega) (pw_cell_below (below_alloc (below_alloc (Below.refl _ _) _) _) v1); have HW1 := Lib.hid (And.intro m1 (And.intro (((HM2.out.alloc _).alloc _).kb k1 (show ¬ w.heap.size + 1 = w.heap.size by omega)) (Below.trans (below_alloc (below_alloc HBB.out _) _) (k1.below (B := w.heap.size) (by simp; omega) (fun k h => by have h2 : k = w.heap.size := h; omega))))); clear m1 k1)
                  | (at_lookup; refine wpList_lookT keyS rfl _ _ 46 3 rfl Try.underlying46 _ zeroI (w.heap.size + 1) (k + 1) (putT g2 o.f1 (.int .i64 ((nn : Int) + 1))) o.f1 (.int .i64 ((nn : Int) + 1)) rfl rfl HW2.out.1 HOK.out.2 (by rw [putT_same]; rfl) ?_)
                  | (at_lookup; refine wpList_lookT keyS rfl _ _ 46 3 rfl Try.underlying46 _ zeroI (w.heap.size + 1) k g2 o.f1 (.int .i64 nn) rfl rfl HW1.out.2.1 HOK.out.2 HN2.out ?_)
                  | (at_mapUpdate; refine wpList_storeT keyS rfl _ _ _ 46 3 rfl Try.underlying46 (w.heap.size + 1) k g2 o.f1 (.int .i64 ((nn : Int) + 1)) rfl rfl rfl HW1.out.2.1 HKM.out.1 HOK.out.2 ?_; intro w2 m2 k2; have z1 := k2.cell (a := ⟨wr.heap.size, 1, none⟩) (show ¬ wr.heap.size = w.heap.size + 1 by omega) y1; have HW2 := Lib.hid (And.intro m2 (And.intro (HW1.out.1.kb k2 (show ¬ w.heap.size = w.heap.size + 1 by omega)) (Below.trans HW1.out.2.2 (k2.below (B := w.heap.size) HW1.out.2.2.size (fun k h => by have h2 : k = w.heap.size + 1 := h; omega))))); clear m2 k2)
                  | go_in)
                go_roundw
                case rel =>
                  refine ⟨k + 1, by omega, by go_num, validFrom_next hlt HG.out.2.2 (by rw [HO.out, okNext_new HFF.out HLL.out HNE.out, HN.out]; exact decide_eq_true h17), ⟨_, HW2.out.2.1, ?_⟩, ⟨_, HW2.out.1, ?_⟩, HW2.out.2.2⟩
                  · rw [take_odAt hlt, HO.out]
                    exact HG.out.1.put
                  · rw [take_odAt hlt, HO.out, ← HN.out]
                    exact HG.out.2.1.put HNX.out
                case measure => simp [intOf]; omega
              · have h18 : (16 : Int) < (nn : Int) + 1 := by omega
                have HV := Lib.hid (valid_stop hlt (by rw [HO.out, okNext_new HFF.out HLL.out HNE.out, HN.out]; exact decide_eq_false h17))
                go_wp2_with (first
                  | (at_lookup; refine wpList_lookokT keyI rfl _ _ 45 48 rfl Try.underlying45 _ zeroP w.heap.size k g1 o.f0 (.agg #[.string ⟨#[]⟩, .string ⟨#[]⟩]) false rfl rfl (HM1.out.alloc _) HOK.out.1 (by rw [HGX.out]; rfl) (by rw [HGX.out]; rfl) ?_)
                  | (at_mapUpdate; refine wpList_storeT keyI rfl _ _ _ 45 48 rfl Try.underlying45 w.heap.size k g1 o.f0 (pa o.f1 o.f2) rfl rfl rfl ((HM1.out.alloc _).alloc _) HKM.out.1 HOK.out.1 ?_; intro w1 m1 k1; have y1 := k1.cell (a := ⟨wr.heap.size, 1, none⟩) (show ¬ wr.heap.size = w.heap.size by omega) (pw_cell_below (below_alloc (below_alloc (Below.refl _ _) _) _) v1); have HW1 := Lib.hid (And.intro m1 (And.intro (((HM2.out.alloc _).alloc _).kb k1 (show ¬ w.heap.size + 1 = w.heap.size by omega)) (Below.trans (below_alloc (below_alloc HBB.out _) _) (k1.below (B := w.heap.size) (by simp; omega) (fun k h => by have h2 : k = w.heap.size := h; omega))))); clear m1 k1)
                  | (at_lookup; refine wpList_lookT keyS rfl _ _ 46 3 rfl Try.underlying46 _ zeroI (w.heap.size + 1) (k + 1) (putT g2 o.f1 (.int .i64 ((nn : Int) + 1))) o.f1 (.int .i64 ((nn : Int) + 1)) rfl rfl HW2.out.1 HOK.out.2 (by rw [putT_same]; rfl) ?_)
                  | (at_lookup; refine wpList_lookT keyS rfl _ _ 46 3 rfl Try.underlying46 _ zeroI (w.heap.size + 1) k g2 o.f1 (.int .i64 nn) rfl rfl HW1.out.2.1 HOK.out.2 HN2.out ?_)
                  | (at_mapUpdate; refine wpList_storeT keyS rfl _ _ _ 46 3 rfl Try.underlying46 (w.heap.size + 1) k g2 o.f1 (.int .i64 ((nn : Int) + 1)) rfl rfl rfl HW1.out.2.1 HKM.out.1 HOK.out.2 ?_; intro w2 m2 k2; have z1 := k2.cell (a := ⟨wr.heap.size, 1, none⟩) (show ¬ wr.heap.size = w.heap.size + 1 by omega) y1; have HW2 := Lib.hid (And.intro m2 (And.intro (HW1.out.1.kb k2 (show ¬ w.heap.size = w.heap.size + 1 by omega)) (Below.trans HW1.out.2.2 (k2.below (B := w.heap.size) HW1.out.2.2.size (fun k h => by have h2 : k = w.heap.size + 1 := h; omega))))); clear m2 k2)
                  | go_in)
                go_ret
                exact ⟨by rw [HV.out]; rfl, HW2.out.2.2⟩
          · have hz : decide (0 < k) = true := decide_eq_true (by omega)
            have hk1 : k - 1 < l0.length := by omega
            obtain ⟨ad', ead, q0, q1, q2, q3, q4, q5, q6, q7⟩ := od_cells (Kd.C_below HC.out HB.out) hk1
            cases ead
            generalize hp : odAt l0 (k - 1) = p at *
            have HP := Lib.hid hp
            have z1 : (0 : Int) ≤ (k : Int) - 1 := by omega
            have z2 : (k : Int) - 1 < (l0.length : Int) := by omega
            have z6 : (1 : Int) ≤ (k : Int) := by omega
            have z3 : ((k : Int) - 1).toNat = k - 1 := by omega
            have z4 : IntKind.i64.wrap ((k : Int) - 1) = (k : Int) - 1 := IntWalk.i64_in _ (by omega)
            clear hp q0 q1 q2 q3 q5 q6 q7 hk1
            by_cases hle : p.f4 ≤ o.f4
            · have HLL := Lib.hid (show lastLe (l0.take k) o = true from by rw [← HO.out, lastLe_at hlt]; exact decide_eq_true (fun h => by rw [HP.out, HO.out]; exact hle))
              have z5 : decide (o.f4 < p.f4) = false := decide_eq_false (by omega)
              clear hle hk0
              go_wp2_with fail
              refine start_ (n := 18) (S := fun W => W.heap[wr.heap.size]? = some (.cells #[.int .i64 o.f0, .string o.f1, .string o.f2, .int .i64 o.f3, .int .i64 o.f4, .int .i64 o.f5, .int .i64 o.f6, .bool o.f7] 24 (0, 0)) ∧ Below wr.heap.size wr W) (ds := []) #[false, false, false, false, false, false, false, false, false, false, false, false, false, false, false, false, false, false] (by kernel_rfl) rfl rfl ⟨blk_drew (World.alloc_heap_new _ _), below_drew1 (below_alloc (Below.refl _ _) _)⟩ (fun hHeld => ?_)
              refine take_ (i := 0) (N := (some 22)) (v := ?_) (a' := ?_) #[true, false, false, false, false, false, false, false, false, false, false, false, false, false, false, false, false, false] rfl rfl (by kernel_rfl) (fun _ _ _ h => h) (Or.inl ⟨by rfl, ?_⟩) hHeld ?_ ?_
              rotate_left
              · rintro w' ⟨s, sb⟩
                obtain ⟨c0, c1, c2, c3, c4, c5, c6, c7⟩ := od_blk s
                have b4 := pw_cell_below sb q4
                clear s sb
                go_simp
                with_reducible rfl
              rotate_left
              · simp only [Act.put, List.setIfInBounds_toArray, List.set_cons_zero, List.set_cons_succ, i64_w, i32_w]
                rfl
              refine one_ (i := 1) (N := (some 23)) #[true, true, false, false, false, false, false, false, false, false, false, false, false, false, false, false, false, false] rfl rfl (by kernel_rfl) (by decide) (fun K hK => ?_)
              refine goes_ Try.func20 (by kernel_rfl) rfl #[odV o] (by rfl) rfl rfl (by (try simp only [List.map_toArray, List.map_cons, List.map_nil]); first | done | rfl) ?_
              with_reducible refine (HF.out _).mono ?_
              rintro e w' ⟨rfl, hb⟩
              refine ⟨_, rfl, ?_⟩
              refine hK.out _ _ ⟨blk_below hHeld.1 hb, below_step hHeld.2 hb⟩ (fun hHeld => ?_)
              clear hK K
              clear hb
              refine norm_ (a' := ?_) ?_ ?_
              rotate_left
              · show Act.put _ (some 23) _ = _
                simp only [Act.put, List.setIfInBounds_toArray, List.set_cons_zero, List.set_cons_succ, i64_w, i32_w]
                rfl
              refine pure_ (i := 2) (N := (some 24)) (v := ?_) (a' := ?_) #[true, true, true, false, false, false, false, false, false, false, false, false, false, false, false, false, false, false] rfl rfl (by kernel_rfl) (fun _ _ _ h => h) (Or.inl ⟨by rfl, ?_⟩) ?_ ?_
              rotate_left
              · intro w'
                go_simp
                with_reducible rfl
              rotate_left
              · simp only [Act.put, List.setIfInBounds_toArray, List.set_cons_zero, List.set_cons_succ, i64_w, i32_w]
                rfl
              refine pure_ (i := 3) (N := (some 25)) (v := ?_) (a' := ?_) #[true, true, true, true, false, false, false, false, false, false, false, false, false, false, false, false, false, false] rfl rfl (by kernel_rfl) (fun _ _ _ h => h) (Or.inl ⟨by rfl, ?_⟩) ?_ ?_
              rotate_left
              · intro w'
                go_simp
                with_reducible rfl
              rotate_left
              · simp only [Act.put, List.setIfInBounds_toArray, List.set_cons_zero, List.set_cons_succ, i64_w, i32_w]
                rfl
              refine pure_ (i := 4) (N := (some 26)) (v := ?_) (a' := ?_) #[true, true, true, true, true, false, false, false, false, false, false, false, false, false, false, false, false, false] rfl rfl (by kernel_rfl) (fun _ _ _ h => h) (Or.inl ⟨by rfl, ?_⟩) ?_ ?_
              rotate_left
              · intro w'
                go_simp
                with_reducible rfl
              rotate_left
              · simp only [Act.put, List.setIfInBounds_toArray, List.set_cons_zero, List.set_cons_succ, i64_w, i32_w]
                rfl
              refine pure_ (i := 5) (N := (some 27)) (v := ?_) (a' := ?_) #[true, true, true, true, true, true, false, false, false, false, false, false, false, false, false, false, false, false] rfl rfl (by kernel_rfl) (fun _ _ _ h => h) (Or.inl ⟨by rfl, ?_⟩) ?_ ?_
              rotate_left
              · intro w'
                go_simp
                with_reducible rfl
              rotate_left
              · simp only [Act.put, List.setIfInBounds_toArray, List.set_cons_zero, List.set_cons_succ, i64_w, i32_w]
                rfl
              refine pure_ (i := 6) (N := (some 28)) (v := ?_) (a' := ?_) #[true, true, true, true, true, true, true, false, false, false, false, false, false, false, false, false, false, false] rfl rfl (by kernel_rfl) (fun _ _ _ h => h) (Or.inl ⟨by rfl, ?_⟩) ?_ ?_
              rotate_left
              · intro w'
                go_simp
                with_reducible rfl
              rotate_left
              · simp only [Act.put, List.setIfInBounds_toArray, List.set_cons_zero, List.set_cons_succ, i64_w, i32_w]
                rfl
              refine pure_ (i := 7) (N := (some 29)) (v := ?_) (a' := ?_) #[true, true, true, true, true, true, true, true, false, false, false, false, false, false, false, false, false, false] rfl rfl (by kernel_rfl) (fun _ _ _ h => h) (Or.inl ⟨by rfl, ?_⟩) ?_ ?_
              rotate_left
              · intro w'
                go_simp
                with_reducible rfl
              rotate_left
              · simp only [Act.put, List.setIfInBounds_toArray, List.set_cons_zero, List.set_cons_succ, i64_w, i32_w]
                rfl
              refine take_ (i := 8) (N := (some 30)) (v := ?_) (a' := ?_) #[true, true, true, true, true, true, true, true, true, false, false, false, false, false, false, false, false, false] rfl rfl (by kernel_rfl) (fun _ _ _ h => h) (Or.inl ⟨by rfl, ?_⟩) hHeld ?_ ?_
              rotate_left
              · rintro w' ⟨s, sb⟩
                obtain ⟨c0, c1, c2, c3, c4, c5, c6, c7⟩ := od_blk s
                have b4 := pw_cell_below sb q4
                clear s sb
                go_simp
                with_reducible rfl
              rotate_left
              · simp only [Act.put, List.setIfInBounds_toArray, List.set_cons_zero, List.set_cons_succ, i64_w, i32_w]
                rfl
              refine pure_ (i := 9) (N := (some 31)) (v := ?_) (a' := ?_) #[true, true, true, true, true, true, true, true, true, true, false, false, false, false, false, false, false, false] rfl rfl (by kernel_rfl) (fun _ _ _ h => h) (Or.inl ⟨by rfl, ?_⟩) ?_ ?_
              rotate_left
              · intro w'
                go_simp
                with_reducible rfl
              rotate_left
              · simp only [Act.put, List.setIfInBounds_toArray, List.set_cons_zero, List.set_cons_succ, i64_w, i32_w]
                rfl
              refine pure_ (i := 10) (N := (some 32)) (v := ?_) (a' := ?_) #[true, true, true, true, true, true, true, true, true, true, true, false, false, false, false, false, false, false] rfl rfl (by kernel_rfl) (fun _ _ _ h => h) (Or.inl ⟨by rfl, ?_⟩) ?_ ?_
              rotate_left
              · intro w'
                go_simp
                with_reducible rfl
              rotate_left
              · simp only [Act.put, List.setIfInBounds_toArray, List.set_cons_zero, List.set_cons_succ, i64_w, i32_w]
                rfl
              refine pure_ (i := 11) (N := (some 33)) (v := ?_) (a' := ?_) #[true, true, true, true, true, true, true, true, true, true, true, true, false, false, false, false, false, false] rfl rfl (by kernel_rfl) (fun _ _ _ h => h) (Or.inl ⟨by rfl, ?_⟩) ?_ ?_
              rotate_left
              · intro w'
                go_simp
                with_reducible rfl
              rotate_left
              · simp only [Act.put, List.setIfInBounds_toArray, List.set_cons_zero, List.set_cons_succ, i64_w, i32_w]
                rfl
              refine pure_ (i := 12) (N := (some 34)) (v := ?_) (a' := ?_) #[true, true, true, true, true, true, true, true, true, true, true, true, true, false, false, false, false, false] rfl rfl (by kernel_rfl) (fun _ _ _ h => h) (Or.inl ⟨by rfl, ?_⟩) ?_ ?_
              rotate_left
              · intro w'
                go_simp
                with_reducible rfl
              rotate_left
              · simp only [Act.put, List.setIfInBounds_toArray, List.set_cons_zero, List.set_cons_succ, i64_w, i32_w]
                rfl
              refine pure_ (i := 13) (N := (some 35)) (v := ?_) (a' := ?_) #[true, true, true, true, true, true, true, true, true, true, true, true, true, true, false, false, false, false] rfl rfl (by kernel_rfl) (fun _ _ _ h => h) (Or.inl ⟨by rfl, ?_⟩) ?_ ?_
              rotate_left
              · intro w'
                go_simp
                with_reducible rfl
              rotate_left
              · simp only [Act.put, List.setIfInBounds_toArray, List.set_cons_zero, List.set_cons_succ, i64_w, i32_w]
                rfl
              refine take_ (i := 14) (N := (some 36)) (v := ?_) (a' := ?_) #[true, true, true, true, true, true, true, true, true, true, true, true, true, true, true, false, false, false] rfl rfl (by kernel_rfl) (fun _ _ _ h => h) (Or.inl ⟨by rfl, ?_⟩) hHeld ?_ ?_
              rotate_left
              · rintro w' ⟨s, sb⟩
                obtain ⟨c0, c1, c2, c3, c4, c5, c6, c7⟩ := od_blk s
                have b4 := pw_cell_below sb q4
                clear s sb
                go_simp
                with_reducible rfl
              rotate_left
              · simp only [Act.put, List.setIfInBounds_toArray, List.set_cons_zero, List.set_cons_succ, i64_w, i32_w]
                rfl
              refine pure_ (i := 15) (N := (some 37)) (v := ?_) (a' := ?_) #[true, true, true, true, true, true, true, true, true, true, true, true, true, true, true, true, false, false] rfl rfl (by kernel_rfl) (fun _ _ _ h => h) (Or.inl ⟨by rfl, ?_⟩) ?_ ?_
              rotate_left
              · intro w'
                go_simp
                with_reducible rfl
              rotate_left
              · simp only [Act.put, List.setIfInBounds_toArray, List.set_cons_zero, List.set_cons_succ, i64_w, i32_w]
                rfl
              refine pure_ (i := 16) (N := (some 38)) (v := ?_) (a' := ?_) #[true, true, true, true, true, true, true, true, true, true, true, true, true, true, true, true, true, false] rfl rfl (by kernel_rfl) (fun _ _ _ h => h) (Or.inl ⟨by rfl, ?_⟩) ?_ ?_
              rotate_left
              · intro w'
                go_simp
                with_reducible rfl
              rotate_left
              · simp only [Act.put, List.setIfInBounds_toArray, List.set_cons_zero, List.set_cons_succ, i64_w, i32_w]
                rfl
              refine pure_ (i := 17) (N := (some 39)) (v := ?_) (a' := ?_) #[true, true, true, true, true, true, true, true, true, true, true, true, true, true, true, true, true, true] rfl rfl (by kernel_rfl) (fun _ _ _ h => h) (Or.inl ⟨by rfl, ?_⟩) ?_ ?_
              rotate_left
              · intro w'
                go_simp
                with_reducible rfl
              rotate_left
              · simp only [Act.put, List.setIfInBounds_toArray, List.set_cons_zero, List.set_cons_succ, i64_w, i32_w]
                rfl
              refine done_ (by kernel_rfl) ?_
              clear z1 z2 z3 z4 z5 q4
              have HS := Lib.hid hHeld
              clear hHeld
              obtain ⟨s, sb⟩ := HS.out
              obtain ⟨v0, v1, v2, v3, v4, v5, v6, v7⟩ := od_blk s
              have hsz := (Array.getElem?_eq_some_iff.1 s).1
              clear s sb
              obtain ⟨hva, ⟨g1, hm1, hg1⟩, ⟨g2, hm2, hg2⟩, hbw⟩ := HI.out
              have hff := FOk.of HFF.out
              have hn1 := hg1 o.f0
              have hn2 := hg2 o.f1
              have h16 := few_of hva o.f1
              have HWR := hm2.lt
              have HM1 := Lib.hid (hm1.below HS.out.2 hm1.lt)
              have HM2 := Lib.hid (hm2.below HS.out.2 hm2.lt)
              have HG := Lib.hid (And.intro hg1 (And.intro hg2 hva))
              have okn : okI o.f0 := WalkArith.wf_i64 (by have := hff.f0; omega)
              have okp : okS o.f1 := by have := hff.f1; show _ ≤ maxLen; unfold maxLen; omega
              have HOK := Lib.hid (And.intro okn okp)
              have hkm : k < maxLen ∧ k + 1 < maxLen := by unfold maxLen; omega
              have HKM := Lib.hid hkm
              generalize hN : nums o.f1 [] (l0.take k) = nn at *
              have HN := Lib.hid hN
              have HN2 := Lib.hid hn2
              have HBB := Lib.hid (below_step HB.out HS.out.2)
              clear hva hm1 hg1 hm2 hg2 hbw hff okn okp hN hn2 hkm
              rcases hn1 with ⟨x, hx, hxn, hgx⟩ | ⟨hne, hgx⟩
              · have HX := Lib.hid (And.intro hx hxn)
                have HGX := Lib.hid hgx
                have h17 : ¬ (16 : Int) < (nn : Int) := by omega
                clear hx hxn hgx
                by_cases hsame : x.f1 = o.f1 ∧ x.f2 = o.f2
                · have HSA := Lib.hid hsame
                  clear hsame
                  go_wp2_with (first
                    | (at_lookup; refine wpList_lookokT keyI rfl _ _ 45 48 rfl Try.underlying45 _ zeroP w.heap.size k g1 o.f0 (pa o.f1 o.f2) true rfl rfl (HM1.out.alloc _) HOK.out.1 (by rw [HGX.out, HSA.out.1, HSA.out.2]; rfl) (by rw [HGX.out]; rfl) ?_)
                    | (at_lookup; refine wpList_lookT keyS rfl _ _ 46 3 rfl Try.underlying46 _ zeroI (w.heap.size + 1) k g2 o.f1 (.int .i64 nn) rfl rfl ((HM2.out.alloc _).alloc _) HOK.out.2 HN2.out ?_)
                    | go_in)
                  go_roundw
                  case rel =>
                    refine ⟨k + 1, by omega, by go_num, validFrom_next hlt HG.out.2.2 (by rw [HO.out]; exact okNext_old HG.out.2.2 HFF.out HLL.out HX.out.1 HX.out.2 HSA.out), ⟨g1, ((HM1.out.alloc _).alloc _).mono (by omega), ?_⟩, ⟨g2, ((HM2.out.alloc _).alloc _).mono (by omega), ?_⟩, below_alloc (below_alloc HBB.out _) _⟩
                    · rw [take_odAt hlt, HO.out]
                      exact HG.out.1.keep HX.out.1 HX.out.2
                    · rw [take_odAt hlt, HO.out]
                      exact HG.out.2.1.keep (newIn_false HX.out.1 HX.out.2)
                  case measure => simp [intOf]; omega
                · have HV := Lib.hid (valid_stop hlt (by rw [HO.out]; exact okNext_diff HX.out.1 HX.out.2 hsame))
                  by_cases h1 : x.f1 = o.f1
                  · have ne : ¬ x.f2.toList = o.f2.toList := fun h => hsame ⟨h1, str_eq.1 h⟩
                    have H1 := Lib.hid h1
                    clear hsame h1
                    go_wp2_with (first
                      | (at_lookup; refine wpList_lookokT keyI rfl _ _ 45 48 rfl Try.underlying45 _ zeroP w.heap.size k g1 o.f0 (pa o.f1 x.f2) true rfl rfl (HM1.out.alloc _) HOK.out.1 (by rw [HGX.out, H1.out]; rfl) (by rw [HGX.out]; rfl) ?_)
                      | go_in)
                    go_ret
                    exact ⟨by rw [HV.out]; rfl, below_alloc (below_alloc HBB.out _) _⟩
                  · have ne : ¬ x.f1.toList = o.f1.toList := fun h => h1 (str_eq.1 h)
                    clear hsame h1
                    go_wp2_with (first
                      | (at_lookup; refine wpList_lookokT keyI rfl _ _ 45 48 rfl Try.underlying45 _ zeroP w.heap.size k g1 o.f0 (pa x.f1 x.f2) true rfl rfl (HM1.out.alloc _) HOK.out.1 (by rw [HGX.out]; rfl) (by rw [HGX.out]; rfl) ?_)
                      | go_in)
                    go_ret
                    exact ⟨by rw [HV.out]; rfl, below_alloc (below_alloc HBB.out _) _⟩
              · have HNE := Lib.hid hne
                have HGX := Lib.hid hgx
                have HNX := Lib.hid (newIn_iff.2 hne)
                clear hne hgx
                by_cases h17 : nn + 1 ≤ 16
                · have h18 : ¬ (16 : Int) < (nn : Int) + 1 := by omega
                  go_wp2_with (first
                    | (at_lookup; refine wpList_lookokT keyI rfl _ _ 45 48 rfl Try.underlying45 _ zeroP w.heap.size k g1 o.f0 (.agg #[.string ⟨#[]⟩, .string ⟨#[]⟩]) false rfl rfl (HM1.out.alloc _) HOK.out.1 (by rw [HGX.out]; rfl) (by rw [HGX.out]; rfl) ?_)
                    | (at_mapUpdate; refine wpList_storeT keyI rfl _ _ _ 45 48 rfl Try.underlying45 w.heap.size k g1 o.f0 (pa o.f1 o.f2) rfl rfl rfl ((HM1.out.alloc _).alloc _) HKM.out.1 HOK.out.1 ?_; intro w1 m1 k1; have y1 := k1.cell (a := ⟨wr.heap.size, 1, none⟩) (show ¬ wr.heap.size = w.heap.size by omega) (pw_cell_below (below_alloc (below_alloc (Below.refl _ _) _) _) v1); have HW1 := Lib.hid (And.intro m1 (And.intro (((HM2.out.alloc _).alloc _).kb k1 (show ¬ w.heap.size + 1 = w.heap.size by omega)) (Below.trans (below_alloc (below_alloc HBB.out _) _) (k1.below (B := w.heap.size) (by simp; omega) (fun k h => by have h2 : k = w.heap.size := h; omega))))); clear m1 k1)
                    | (at_lookup; refine wpList_lookT keyS rfl _ _ 46 3 rfl Try.underlying46 _ zeroI (w.heap.size + 1) (k + 1) (putT g2 o.f1 (.int .i64 ((nn : Int) + 1))) o.f1 (.int .i64 ((nn : Int) + 1)) rfl rfl HW2.out.1 HOK.out.2 (by rw [putT_same]; rfl) ?_)
                    | (at_lookup; refine wpList_lookT keyS rfl _ _ 46 3 rfl Try.underlying46 _ zeroI (w.heap.size + 1) k g2 o.f1 (.int .i64 nn) rfl rfl HW1.out.2.1 HOK.out.2 HN2.out ?_)
                    | (at_mapUpdate; refine wpList_storeT keyS rfl _ _ _ 46 3 rfl Try.underlying46 (w.heap.size + 1) k g2 o.f1 (.int .i64 ((nn : Int) + 1)) rfl rfl rfl HW1.out.2.1 HKM.out.1 HOK.out.2 ?_; intro w2 m2 k2; have z1 := k2.cell (a := ⟨wr.heap.size, 1, none⟩) (show ¬ wr.heap.size = w.heap.size + 1 by omega) y1; have HW2 := Lib.hid (And.intro m2 (And.intro (HW1.out.1.kb k2 (show ¬ w.heap.size = w.heap.size + 1 by omega)) (Below.trans HW1.out.2.2 (k2.below (B := w.heap.size) HW1.out.2.2.size (fun k h => by have h2 : k = w.heap.size + 1 := h; omega))))); clear m2 k2)
                    | go_in)
                  go_roundw
                  case rel =>
                    refine ⟨k + 1, by omega, by go_num, validFrom_next hlt HG.out.2.2 (by rw [HO.out, okNext_new HFF.out HLL.out HNE.out, HN.out]; exact decide_eq_true h17), ⟨_, HW2.out.2.1, ?_⟩, ⟨_, HW2.out.1, ?_⟩, HW2.out.2.2⟩
                    · rw [take_odAt hlt, HO.out]
                      exact HG.out.1.put
                    · rw [take_odAt hlt, HO.out, ← HN.out]
                      exact HG.out.2.1.put HNX.out
                  case measure => simp [intOf]; omega
                · have h18 : (16 : Int) < (nn : Int) + 1 := by omega
                  have HV := Lib.hid (valid_stop hlt (by rw [HO.out, okNext_new HFF.out HLL.out HNE.out, HN.out]; exact decide_eq_false h17))
                  go_wp2_with (first
                    | (at_lookup; refine wpList_lookokT keyI rfl _ _ 45 48 rfl Try.underlying45 _ zeroP w.heap.size k g1 o.f0 (.agg #[.string ⟨#[]⟩, .string ⟨#[]⟩]) false rfl rfl (HM1.out.alloc _) HOK.out.1 (by rw [HGX.out]; rfl) (by rw [HGX.out]; rfl) ?_)
                    | (at_mapUpdate; refine wpList_storeT keyI rfl _ _ _ 45 48 rfl Try.underlying45 w.heap.size k g1 o.f0 (pa o.f1 o.f2) rfl rfl rfl ((HM1.out.alloc _).alloc _) HKM.out.1 HOK.out.1 ?_; intro w1 m1 k1; have y1 := k1.cell (a := ⟨wr.heap.size, 1, none⟩) (show ¬ wr.heap.size = w.heap.size by omega) (pw_cell_below (below_alloc (below_alloc (Below.refl _ _) _) _) v1); have HW1 := Lib.hid (And.intro m1 (And.intro (((HM2.out.alloc _).alloc _).kb k1 (show ¬ w.heap.size + 1 = w.heap.size by omega)) (Below.trans (below_alloc (below_alloc HBB.out _) _) (k1.below (B := w.heap.size) (by simp; omega) (fun k h => by have h2 : k = w.heap.size := h; omega))))); clear m1 k1)
                    | (at_lookup; refine wpList_lookT keyS rfl _ _ 46 3 rfl Try.underlying46 _ zeroI (w.heap.size + 1) (k + 1) (putT g2 o.f1 (.int .i64 ((nn : Int) + 1))) o.f1 (.int .i64 ((nn : Int) + 1)) rfl rfl HW2.out.1 HOK.out.2 (by rw [putT_same]; rfl) ?_)
                    | (at_lookup; refine wpList_lookT keyS rfl _ _ 46 3 rfl Try.underlying46 _ zeroI (w.heap.size + 1) k g2 o.f1 (.int .i64 nn) rfl rfl HW1.out.2.1 HOK.out.2 HN2.out ?_)
                    | (at_mapUpdate; refine wpList_storeT keyS rfl _ _ _ 46 3 rfl Try.underlying46 (w.heap.size + 1) k g2 o.f1 (.int .i64 ((nn : Int) + 1)) rfl rfl rfl HW1.out.2.1 HKM.out.1 HOK.out.2 ?_; intro w2 m2 k2; have z1 := k2.cell (a := ⟨wr.heap.size, 1, none⟩) (show ¬ wr.heap.size = w.heap.size + 1 by omega) y1; have HW2 := Lib.hid (And.intro m2 (And.intro (HW1.out.1.kb k2 (show ¬ w.heap.size = w.heap.size + 1 by omega)) (Below.trans HW1.out.2.2 (k2.below (B := w.heap.size) HW1.out.2.2.size (fun k h => by have h2 : k = w.heap.size + 1 := h; omega))))); clear m2 k2)
                    | go_in)
                  go_ret
                  exact ⟨by rw [HV.out]; rfl, HW2.out.2.2⟩
            · have HV := Lib.hid (valid_stop hlt (by rw [HO.out]; unfold okNext; rw [show lastLe (l0.take k) o = false from by rw [← HO.out, lastLe_at hlt]; exact decide_eq_false (fun h => by rw [HP.out, HO.out] at h; exact hle (h (by omega)))]; simp))
              have z5 : decide (o.f4 < p.f4) = true := decide_eq_true (by omega)
              clear hle hk0
              go_wp2_with fail
              refine start_ (n := 18) (S := fun W => W.heap[wr.heap.size]? = some (.cells #[.int .i64 o.f0, .string o.f1, .string o.f2, .int .i64 o.f3, .int .i64 o.f4, .int .i64 o.f5, .int .i64 o.f6, .bool o.f7] 24 (0, 0)) ∧ Below wr.heap.size wr W) (ds := []) #[false, false, false, false, false, false, false, false, false, false, false, false, false, false, false, false, false, false] (by kernel_rfl) rfl rfl ⟨blk_drew (World.alloc_heap_new _ _), below_drew1 (below_alloc (Below.refl _ _) _)⟩ (fun hHeld => ?_)
              refine take_ (i := 0) (N := (some 22)) (v := ?_) (a' := ?_) #[true, false, false, false, false, false, false, false, false, false, false, false, false, false, false, false, false, false] rfl rfl (by kernel_rfl) (fun _ _ _ h => h) (Or.inl ⟨by rfl, ?_⟩) hHeld ?_ ?_
              rotate_left
              · rintro w' ⟨s, sb⟩
                obtain ⟨c0, c1, c2, c3, c4, c5, c6, c7⟩ := od_blk s
                have b4 := pw_cell_below sb q4
                clear s sb
                go_simp
                with_reducible rfl
              rotate_left
              · simp only [Act.put, List.setIfInBounds_toArray, List.set_cons_zero, List.set_cons_succ, i64_w, i32_w]
                rfl
              refine one_ (i := 1) (N := (some 23)) #[true, true, false, false, false, false, false, false, false, false, false, false, false, false, false, false, false, false] rfl rfl (by kernel_rfl) (by decide) (fun K hK => ?_)
              refine goes_ Try.func20 (by kernel_rfl) rfl #[odV o] (by rfl) rfl rfl (by (try simp only [List.map_toArray, List.map_cons, List.map_nil]); first | done | rfl) ?_
              with_reducible refine (HF.out _).mono ?_
              rintro e w' ⟨rfl, hb⟩
              refine ⟨_, rfl, ?_⟩
              refine hK.out _ _ ⟨blk_below hHeld.1 hb, below_step hHeld.2 hb⟩ (fun hHeld => ?_)
              clear hK K
              clear hb
              refine norm_ (a' := ?_) ?_ ?_
              rotate_left
              · show Act.put _ (some 23) _ = _
                simp only [Act.put, List.setIfInBounds_toArray, List.set_cons_zero, List.set_cons_succ, i64_w, i32_w]
                rfl
              refine pure_ (i := 2) (N := (some 24)) (v := ?_) (a' := ?_) #[true, true, true, false, false, false, false, false, false, false, false, false, false, false, false, false, false, false] rfl rfl (by kernel_rfl) (fun _ _ _ h => h) (Or.inl ⟨by rfl, ?_⟩) ?_ ?_
              rotate_left
              · intro w'
                go_simp
                with_reducible rfl
              rotate_left
              · simp only [Act.put, List.setIfInBounds_toArray, List.set_cons_zero, List.set_cons_succ, i64_w, i32_w]
                rfl
              refine pure_ (i := 3) (N := (some 25)) (v := ?_) (a' := ?_) #[true, true, true, true, false, false, false, false, false, false, false, false, false, false, false, false, false, false] rfl rfl (by kernel_rfl) (fun _ _ _ h => h) (Or.inl ⟨by rfl, ?_⟩) ?_ ?_
              rotate_left
              · intro w'
                go_simp
                with_reducible rfl
              rotate_left
              · simp only [Act.put, List.setIfInBounds_toArray, List.set_cons_zero, List.set_cons_succ, i64_w, i32_w]
                rfl
              refine pure_ (i := 4) (N := (some 26)) (v := ?_) (a' := ?_) #[true, true, true, true, true, false, false, false, false, false, false, false, false, false, false, false, false, false] rfl rfl (by kernel_rfl) (fun _ _ _ h => h) (Or.inl ⟨by rfl, ?_⟩) ?_ ?_
              rotate_left
              · intro w'
                go_simp
                with_reducible rfl
              rotate_left
              · simp only [Act.put, List.setIfInBounds_toArray, List.set_cons_zero, List.set_cons_succ, i64_w, i32_w]
                rfl
              refine pure_ (i := 5) (N := (some 27)) (v := ?_) (a' := ?_) #[true, true, true, true, true, true, false, false, false, false, false, false, false, false, false, false, false, false] rfl rfl (by kernel_rfl) (fun _ _ _ h => h) (Or.inl ⟨by rfl, ?_⟩) ?_ ?_
              rotate_left
              · intro w'
                go_simp
                with_reducible rfl
              rotate_left
              · simp only [Act.put, List.setIfInBounds_toArray, List.set_cons_zero, List.set_cons_succ, i64_w, i32_w]
                rfl
              refine pure_ (i := 6) (N := (some 28)) (v := ?_) (a' := ?_) #[true, true, true, true, true, true, true, false, false, false, false, false, false, false, false, false, false, false] rfl rfl (by kernel_rfl) (fun _ _ _ h => h) (Or.inl ⟨by rfl, ?_⟩) ?_ ?_
              rotate_left
              · intro w'
                go_simp
                with_reducible rfl
              rotate_left
              · simp only [Act.put, List.setIfInBounds_toArray, List.set_cons_zero, List.set_cons_succ, i64_w, i32_w]
                rfl
              refine pure_ (i := 7) (N := (some 29)) (v := ?_) (a' := ?_) #[true, true, true, true, true, true, true, true, false, false, false, false, false, false, false, false, false, false] rfl rfl (by kernel_rfl) (fun _ _ _ h => h) (Or.inl ⟨by rfl, ?_⟩) ?_ ?_
              rotate_left
              · intro w'
                go_simp
                with_reducible rfl
              rotate_left
              · simp only [Act.put, List.setIfInBounds_toArray, List.set_cons_zero, List.set_cons_succ, i64_w, i32_w]
                rfl
              refine take_ (i := 8) (N := (some 30)) (v := ?_) (a' := ?_) #[true, true, true, true, true, true, true, true, true, false, false, false, false, false, false, false, false, false] rfl rfl (by kernel_rfl) (fun _ _ _ h => h) (Or.inl ⟨by rfl, ?_⟩) hHeld ?_ ?_
              rotate_left
              · rintro w' ⟨s, sb⟩
                obtain ⟨c0, c1, c2, c3, c4, c5, c6, c7⟩ := od_blk s
                have b4 := pw_cell_below sb q4
                clear s sb
                go_simp
                with_reducible rfl
              rotate_left
              · simp only [Act.put, List.setIfInBounds_toArray, List.set_cons_zero, List.set_cons_succ, i64_w, i32_w]
                rfl
              refine pure_ (i := 9) (N := (some 31)) (v := ?_) (a' := ?_) #[true, true, true, true, true, true, true, true, true, true, false, false, false, false, false, false, false, false] rfl rfl (by kernel_rfl) (fun _ _ _ h => h) (Or.inl ⟨by rfl, ?_⟩) ?_ ?_
              rotate_left
              · intro w'
                go_simp
                with_reducible rfl
              rotate_left
              · simp only [Act.put, List.setIfInBounds_toArray, List.set_cons_zero, List.set_cons_succ, i64_w, i32_w]
                rfl
              refine pure_ (i := 10) (N := (some 32)) (v := ?_) (a' := ?_) #[true, true, true, true, true, true, true, true, true, true, true, false, false, false, false, false, false, false] rfl rfl (by kernel_rfl) (fun _ _ _ h => h) (Or.inl ⟨by rfl, ?_⟩) ?_ ?_
              rotate_left
              · intro w'
                go_simp
                with_reducible rfl
              rotate_left
              · simp only [Act.put, List.setIfInBounds_toArray, List.set_cons_zero, List.set_cons_succ, i64_w, i32_w]
                rfl
              refine pure_ (i := 11) (N := (some 33)) (v := ?_) (a' := ?_) #[true, true, true, true, true, true, true, true, true, true, true, true, false, false, false, false, false, false] rfl rfl (by kernel_rfl) (fun _ _ _ h => h) (Or.inl ⟨by rfl, ?_⟩) ?_ ?_
              rotate_left
              · intro w'
                go_simp
                with_reducible rfl
              rotate_left
              · simp only [Act.put, List.setIfInBounds_toArray, List.set_cons_zero, List.set_cons_succ, i64_w, i32_w]
                rfl
              refine pure_ (i := 12) (N := (some 34)) (v := ?_) (a' := ?_) #[true, true, true, true, true, true, true, true, true, true, true, true, true, false, false, false, false, false] rfl rfl (by kernel_rfl) (fun _ _ _ h => h) (Or.inl ⟨by rfl, ?_⟩) ?_ ?_
              rotate_left
              · intro w'
                go_simp
                with_reducible rfl
              rotate_left
              · simp only [Act.put, List.setIfInBounds_toArray, List.set_cons_zero, List.set_cons_succ, i64_w, i32_w]
                rfl
              refine pure_ (i := 13) (N := (some 35)) (v := ?_) (a' := ?_) #[true, true, true, true, true, true, true, true, true, true, true, true, true, true, false, false, false, false] rfl rfl (by kernel_rfl) (fun _ _ _ h => h) (Or.inl ⟨by rfl, ?_⟩) ?_ ?_
              rotate_left
              · intro w'
                go_simp
                with_reducible rfl
              rotate_left
              · simp only [Act.put, List.setIfInBounds_toArray, List.set_cons_zero, List.set_cons_succ, i64_w, i32_w]
                rfl
              refine take_ (i := 14) (N := (some 36)) (v := ?_) (a' := ?_) #[true, true, true, true, true, true, true, true, true, true, true, true, true, true, true, false, false, false] rfl rfl (by kernel_rfl) (fun _ _ _ h => h) (Or.inl ⟨by rfl, ?_⟩) hHeld ?_ ?_
              rotate_left
              · rintro w' ⟨s, sb⟩
                obtain ⟨c0, c1, c2, c3, c4, c5, c6, c7⟩ := od_blk s
                have b4 := pw_cell_below sb q4
                clear s sb
                go_simp
                with_reducible rfl
              rotate_left
              · simp only [Act.put, List.setIfInBounds_toArray, List.set_cons_zero, List.set_cons_succ, i64_w, i32_w]
                rfl
              refine pure_ (i := 15) (N := (some 37)) (v := ?_) (a' := ?_) #[true, true, true, true, true, true, true, true, true, true, true, true, true, true, true, true, false, false] rfl rfl (by kernel_rfl) (fun _ _ _ h => h) (Or.inl ⟨by rfl, ?_⟩) ?_ ?_
              rotate_left
              · intro w'
                go_simp
                with_reducible rfl
              rotate_left
              · simp only [Act.put, List.setIfInBounds_toArray, List.set_cons_zero, List.set_cons_succ, i64_w, i32_w]
                rfl
              refine pure_ (i := 16) (N := (some 38)) (v := ?_) (a' := ?_) #[true, true, true, true, true, true, true, true, true, true, true, true, true, true, true, true, true, false] rfl rfl (by kernel_rfl) (fun _ _ _ h => h) (Or.inl ⟨by rfl, ?_⟩) ?_ ?_
              rotate_left
              · intro w'
                go_simp
                with_reducible rfl
              rotate_left
              · simp only [Act.put, List.setIfInBounds_toArray, List.set_cons_zero, List.set_cons_succ, i64_w, i32_w]
                rfl
              refine pure_ (i := 17) (N := (some 39)) (v := ?_) (a' := ?_) #[true, true, true, true, true, true, true, true, true, true, true, true, true, true, true, true, true, true] rfl rfl (by kernel_rfl) (fun _ _ _ h => h) (Or.inl ⟨by rfl, ?_⟩) ?_ ?_
              rotate_left
              · intro w'
                go_simp
                with_reducible rfl
              rotate_left
              · simp only [Act.put, List.setIfInBounds_toArray, List.set_cons_zero, List.set_cons_succ, i64_w, i32_w]
                rfl
              refine done_ (by kernel_rfl) ?_
              clear z1 z2 z3 z4 z5 q4
              go_wp2_with fail
              go_ret
              exact ⟨by rw [HV.out]; rfl, below_step HB.out hHeld.2⟩
      · obtain rfl : k = l0.length := by omega
        have HV := Lib.hid (show valid l0 = true from by unfold valid; rw [decide_eq_true hlen, ← List.take_length (l := l0)]; exact hI.1)
        have HB := Lib.hid hI.2.2.2
        clear hI
        go_wp2
        go_ret
        exact ⟨by rw [HV.out]; rfl, HB.out⟩
  · have HV := Lib.hid (show valid l0 = false from by unfold valid; rw [decide_eq_false hlen]; rfl)
    go_enter Try.func14, Try.ntmps14
    go_wp2
    go_ret
    exact ⟨by rw [HV.out]; rfl, Below.refl _ _⟩
end Go.Proofs.Ytgbcihbnaecejaa.Q

namespace Go.Proofs.YtgbcihbnaecejaaW.PrintLast
open Go Go.RowKit Go.Shelf Go.Lib Go.Sort Go.Proofs.YtgbcihbnaecejaaW.PrintWords
structure Flat {α : Type} (d : Kd α) (enc : α → List Value) : Prop where
  m : ∀ {w : World} {base : Nat} {ok : Nat → Prop} {x : α} {cs : List Value}, d.M w base ok x cs ↔ cs = enc x
  len : ∀ x, (enc x).length = d.sz
  one : ∀ x, ∀ v ∈ enc x, v.oneCell' = true
section
variable {α : Type} {d : Kd α} {enc : α → List Value}
theorem flat_inner (hf : Flat d enc) {w : World} {base : Nat} {ok : Nat → Prop} : ∀ (xs : List α) (cs : List Value), Reps (d.M w base ok) d.sz xs cs ↔ cs = xs.flatMap enc := by
  intro xs
  have mk : Reps (d.M w base ok) d.sz xs (xs.flatMap enc) := by
    induction xs with
    | nil => exact Reps.none _ _
    | cons x xs ih =>
      refine ⟨by simp only [List.flatMap_cons, List.length_append, List.length_cons, hf.len, ih.1, Nat.succ_mul]; omega, fun j p hp => ?_⟩
      cases j with
      | zero =>
        simp at hp
        subst hp
        rw [Nat.zero_mul, List.drop_zero, List.flatMap_cons, List.take_left' (hf.len x)]
        exact hf.m.2 rfl
      | succ j =>
        have h2 := ih.2 j p (by simpa using hp)
        rw [List.flatMap_cons, Nat.succ_mul, show j * d.sz + d.sz = (enc x).length + j * d.sz by rw [hf.len]; omega, ← List.drop_drop, List.drop_left' rfl]
        exact h2
  refine fun cs => ⟨fun h => ?_, fun h => h ▸ mk⟩
  apply List.ext_getElem?
  intro q
  by_cases hsz : d.sz = 0
  · have h1 : cs.length = 0 := by rw [h.1, hsz, Nat.mul_zero]
    have h2 : (xs.flatMap enc).length = 0 := by rw [mk.1, hsz, Nat.mul_zero]
    rw [List.eq_nil_of_length_eq_zero h1, List.eq_nil_of_length_eq_zero h2]
  · by_cases hq : q < xs.length * d.sz
    · have hj : q / d.sz < xs.length := (Nat.div_lt_iff_lt_mul (by omega)).2 hq
      have a := hf.m.1 (h.2 (q / d.sz) _ (List.getElem?_eq_getElem hj))
      have b := hf.m.1 (mk.2 (q / d.sz) _ (List.getElem?_eq_getElem hj))
      have hm : q % d.sz < d.sz := Nat.mod_lt _ (by omega)
      have e : q / d.sz * d.sz + q % d.sz = q := by rw [Nat.mul_comm]; exact Nat.div_add_mod q d.sz
      have a2 := congrArg (fun l : List Value => l[q % d.sz]?) (a.trans b.symm)
      simp only [List.getElem?_take_of_lt hm, List.getElem?_drop, e] at a2
      exact a2
    · rw [List.getElem?_eq_none (by rw [h.1]; omega), List.getElem?_eq_none (by rw [mk.1]; omega)]
theorem R_flat (hf : Flat d enc) {e : Nat} {w : World} {base : Nat} {ok : Nat → Prop} {v : Value} {xs : List α} : d.R e w base ok v xs ↔ (∀ k, v.ownBlock = some k → ok k) ∧ w.ownsRow base e d.sz v xs.length (xs.flatMap enc) := by
  constructor
  · rintro ⟨h0, inner, ho, hr⟩
    obtain rfl := (flat_inner hf xs inner).1 hr
    exact ⟨h0, ho⟩
  · rintro ⟨h0, ho⟩
    exact ⟨h0, _, ho, (flat_inner hf xs _).2 rfl⟩
theorem flat_flatK [Inhabited α] {k : Nat} (hl : ∀ x, (enc x).length = k) (xs : List α) : flatK enc k xs.toArray = (xs.flatMap enc).toArray := by
  have hlen : ∀ ys : List α, (ys.flatMap enc).length = ys.length * k := by
    intro ys
    induction ys with
    | nil => simp
    | cons y ys ih => simp only [List.flatMap_cons, List.length_append, List.length_cons, hl, ih, Nat.succ_mul]; omega
  have key : ∀ (ys : List α) (q : Nat), q < ys.length * k → (ys.flatMap enc)[q]? = some ((enc (ys.toArray[q / k]!))[q % k]!) := by
    intro ys
    induction ys with
    | nil => intro q hq; simp at hq
    | cons y ys ih =>
      intro q hq
      have hk : 0 < k := by
        rcases Nat.eq_zero_or_pos k with h | h
        · rw [h, Nat.mul_zero] at hq; omega
        · exact h
      rw [List.flatMap_cons]
      by_cases hqk : q < k
      · rw [List.getElem?_append_left (by rw [hl]; exact hqk), Nat.div_eq_of_lt hqk, Nat.mod_eq_of_lt hqk]
        have : q < (enc y).length := by rw [hl]; exact hqk
        simp [List.getElem?_eq_getElem this, getElem!_pos (enc y) q this]
      · have h2 : q - k < ys.length * k := by
          rw [List.length_cons, Nat.succ_mul] at hq
          omega
        rw [List.getElem?_append_right (by rw [hl]; omega), hl, ih _ h2]
        have e1 : q / k = (q - k) / k + 1 := by
          rw [← Nat.add_div_right _ hk, Nat.sub_add_cancel (by omega)]
        have e2 : q % k = (q - k) % k := by
          conv => lhs; rw [← Nat.sub_add_cancel (show k ≤ q by omega), Nat.add_mod_right]
        rw [e1, e2]
        have h3 : (q - k) / k < ys.length := (Nat.div_lt_iff_lt_mul hk).2 h2
        congr 2
        simp [getElem!_pos, h3]
  apply Array.ext_getElem?
  intro q
  by_cases hq : q < xs.length * k
  · have h1 := key xs q hq
    have h2 : (xs.flatMap enc).toArray[q]? = (xs.flatMap enc)[q]? := by simp
    rw [h2, h1]
    simp [flatK, hq]
  · have h2 : (xs.flatMap enc).toArray[q]? = (xs.flatMap enc)[q]? := by simp
    rw [h2, Array.getElem?_eq_none (by simp [flatK]; omega), List.getElem?_eq_none (by rw [hlen]; omega)]
theorem holds_id {w : World} {g : Nat} {cur : Array Value} {e : TypeId} {cs : List Value} (hb : w.heap[g]? = some (.cells cur e (0, 0))) (ht : cur.toList.take cs.length = cs) : Holds id w g 0 cs.toArray := by
  intro j hj
  have hj' : j < cs.length := by simpa using hj
  refine ⟨?_, by simp [World.frozen?, hb]⟩
  have h1 : (cur.toList.take cs.length)[j]? = cs[j]? := by rw [ht]
  rw [List.getElem?_take_of_lt hj'] at h1
  simp only [World.cell?, hb, Nat.zero_add]
  simp only [Option.isSome_none, Bool.false_eq_true, if_false]
  rw [← Array.getElem?_toList, h1]
  simp [hj']
theorem heap_sorted_id {w : World} {g n : Nat} {os : Array Obj} {cur : Array Value} {e : TypeId} {fr : Nat × Nat} (d : Array Value) (hb : w.heap[g]? = some (.cells cur e fr)) :
    (grow (putRow id (Sort.ahead w n) g 0 d) os).heap[g]? = some (.cells (putCells id 0 d cur) e fr) := by
  have hg : g < w.heap.size := (Array.getElem?_eq_some_iff.1 hb).1
  rw [heap_grow_old _ _ (by simpa using hg)]
  simp [putRow, mapBlock, Sort.ahead, Array.getElem?_modify, hb, onCells]
theorem grownBy_sorted_id {w : World} {g n : Nat} {os : Array Obj} (d : Array Value) : w.grownBy (grow (putRow id (Sort.ahead w n) g 0 d) os) (some g) := by
  refine ⟨rfl, rfl, rfl, by simp, fun k hk hne => ?_⟩
  rw [heap_grow_old _ _ (by simpa using hk)]
  have : g ≠ k := fun e => hne (by rw [e])
  simp [putRow, mapBlock, Sort.ahead, Array.getElem?_modify, this]
theorem take_putCells_id (cur : Array Value) (ts : List Value) (h : ts.length ≤ cur.size) : (putCells id 0 ts.toArray cur).toList.take ts.length = ts := by
  apply List.ext_getElem?
  intro j
  by_cases hj : j < ts.length
  · rw [List.getElem?_take_of_lt hj, Array.getElem?_toList]
    simp [putCells, hj, show j < cur.size by omega]
  · rw [List.getElem?_take_eq_none (by omega), List.getElem?_eq_none (by omega)]
def sortd [Inhabited α] (cf : α → α → Int) (xs : List α) : List α := (pdq (ltOf cf) xs.toArray 0 xs.length (Lib.bitLen xs.length) true true).toList
theorem sortd_size [Inhabited α] {cf : α → α → Int} (hO : SWO (ltOf cf)) (xs : List α) : (sortd cf xs).Perm xs ∧ ∀ i j, i < j → j < xs.length → ltOf cf (sortd cf xs)[j]! (sortd cf xs)[i]! = false := by
  have h := pdq_sorts (ltOf cf) hO xs.toArray 0 xs.length (Lib.bitLen xs.length) true true (Nat.zero_le _) (Nat.le_of_eq (by rw [List.size_toArray])) (Or.inl rfl)
  obtain ⟨⟨h1, _, h3⟩, h4⟩ := h
  constructor
  · have e1 : ((pdq (ltOf cf) xs.toArray 0 xs.length (Lib.bitLen xs.length) true true).extract 0 xs.length) = pdq (ltOf cf) xs.toArray 0 xs.length (Lib.bitLen xs.length) true true := by
      have : xs.length = (pdq (ltOf cf) xs.toArray 0 xs.length (Lib.bitLen xs.length) true true).size := by rw [h1]; simp
      conv => lhs; arg 3; rw [this]
      exact Array.extract_size
    rw [e1] at h3
    simpa [sortd] using h3
  · intro i j hij hj
    have := h4 i j (Nat.zero_le _) hij hj
    unfold sortd
    rw [Array.getElem!_toList, Array.getElem!_toList]
    exact this
variable {P : Program} {ρ : Ren}
theorem R_sorted [Inhabited α] (hf : Flat d enc) (L : SlLaysF0.n6 P ρ) (aE : ∀ w, (isAgg (ρ.t 24)).run P w = .ok true w) (zE : ∀ w, (Go.sizeOf (ρ.t 24)).run P w = .ok d.sz w) (cf : α → α → Int) (hO : SWO (ltOf cf)) (g : Nat) (cb : Array Value)
    (eg : ∀ args w, (callFunc g args).run P w = .ok (.enter g args) w) {e : Nat} {w : World} {base : Nat} {ok : Nat → Prop} {v : Value} {xs : List α} (HO : d.R e w base ok v xs)
    (hcmp : ∀ blk, v.ownBlock = some blk → CmpLays P g cb enc d.sz cf blk 0 xs.length w) (hlen : xs.length < 4611686018427387904) :
    Calls P (ρ.f 6) #[v, .func (.func g) #[] cb] w fun e' w' => e' = .returned (.tuple #[]) ∧ d.R e w' base ok v (sortd cf xs) ∧ w.grownBy w' v.ownBlock := by
  have hp := (sortd_size hO xs).1
  obtain ⟨h0, ho⟩ := (R_flat hf).1 HO
  rcases ho.2 with ⟨rfl, hn⟩ | ⟨b, cap, cur, rfl, hbase, hb, hnc, hcm, hcs, htk⟩
  · obtain rfl : xs = [] := List.eq_nil_of_length_eq_zero hn
    refine (AnyF.slices_SortFunc_none L none 0 _ w).mono ?_
    rintro e' w' ⟨rfl, rfl⟩
    have : sortd cf ([] : List α) = [] := List.eq_nil_of_length_eq_zero (by simpa using hp.length_eq)
    rw [this]
    exact ⟨rfl, HO, World.grownBy.refl _ _⟩
  · have hlc : (xs.flatMap enc).length = xs.length * d.sz := ho.1
    have hH : HoldsK enc d.sz w b 0 xs.toArray := by
      unfold HoldsK
      rw [flat_flatK hf.len]
      exact holds_id hb (by rw [hlc]; exact htk)
    have hblk : b < w.heap.size := (Array.getElem?_eq_some_iff.1 hb).1
    have hc := AnyQ.slices_SortFunc_eq L d.sz aE zE enc hf.len hf.one cf hO g cb b 0 cap xs.toArray w eg (by simpa using hcmp b rfl) hH hblk (by simpa using hlen)
    rw [List.size_toArray] at hc
    refine hc.mono ?_
    rintro e' w' ⟨rfl, n, os, rfl⟩
    have hsz : (sortd cf xs).length = xs.length := hp.length_eq
    have hlt : ((sortd cf xs).flatMap enc).length = xs.length * d.sz := by
      have : ∀ ys : List α, (ys.flatMap enc).length = ys.length * d.sz := by
        intro ys
        induction ys with
        | nil => simp
        | cons y ys ih => simp only [List.flatMap_cons, List.length_append, List.length_cons, hf.len, ih, Nat.succ_mul]; omega
      rw [this, hsz]
    have hput : sortWorldK enc d.sz w b 0 n (pdq (ltOf cf) xs.toArray 0 xs.length (Lib.bitLen xs.length) true true) os = grow (putRow id (Sort.ahead w n) b 0 ((sortd cf xs).flatMap enc).toArray) os := by
      unfold sortWorldK putRowK
      rw [← flat_flatK hf.len]
      simp [sortd]
    rw [hput]
    refine ⟨rfl, (R_flat hf).2 ⟨h0, by rw [hlt, hsz], .inr ⟨b, cap, _, by rw [hsz], hbase, heap_sorted_id _ hb, by rw [hsz]; exact hnc, hcm, by simp [putCells, hcs], ?_⟩⟩, grownBy_sorted_id _⟩
    rw [hsz, ← hlt]
    refine take_putCells_id cur _ ?_
    rw [hlt, hcs]
    exact Nat.mul_le_mul_right _ hnc
end
end Go.Proofs.YtgbcihbnaecejaaW.PrintLast

namespace Go.Proofs.Ytgbcihbnaecejaa.Q
open Go Go.RowKit Go.Proofs.YtgbcihbnaecejaaW.PrintWords Go.Proofs.YtgbcihbnaecejaaW.PrintLast Go.Proofs.YtgbcihbnaecejaaW.PrintMore Go.Sort
def GrewD (w w' : World) : Prop := ∃ q os, w' = grow (w.drewN q) os
theorem GrewD.refl (w : World) : GrewD w w := ⟨0, #[], by rw [grow_empty]; rfl⟩
theorem GrewD.drew {w w' : World} (h : GrewD w w') : GrewD w w'.drew := by
  obtain ⟨q, os, rfl⟩ := h
  exact ⟨q + 1, os, rfl⟩
theorem GrewD.drewN {w w' : World} (h : GrewD w w') (n : Nat) : GrewD w (w'.drewN n) := by
  obtain ⟨q, os, rfl⟩ := h
  exact ⟨q + n, os, by rw [← World.drewN_drewN]; rfl⟩
theorem GrewD.alloc {w w' : World} (h : GrewD w w') (o : Obj) : GrewD w (w'.alloc o) := by
  obtain ⟨q, os, rfl⟩ := h
  exact ⟨q, os ++ #[o], by rw [alloc_eq_grow, grow_grow]⟩
theorem GrewD.below {w w' : World} (h : GrewD w w') : Below w.heap.size w w' := by
  obtain ⟨q, os, rfl⟩ := h
  exact ⟨rfl, rfl, rfl, by simp, fun i hi => heap_grow_old _ _ hi⟩
theorem GrewD.cell {w w' : World} (h : GrewD w w') {a : Addr} {v : Value} (hc : w.cell? a = some v) : w'.cell? a = some v := pw_cell_below h.below hc
end Go.Proofs.Ytgbcihbnaecejaa.Q

namespace Go.Proofs
open Go.Shelf
def Try.sortE_ren : Go.Shelf.Ren := ⟨fun | 6 => 26 | 15 => 36 | 14 => 35 | 28 => 48 | 29 => 49 | 20 => 40 | 21 => 41 | 22 => 42 | 23 => 43 | 24 => 44 | 25 => 45 | 26 => 46 | 27 => 47 | 46 => 51 | 47 => 52 | 48 => 53 | 49 => 54 | 50 => 55 | 57 => 57 | n => n, fun | 22 => 22 | 24 => 24 | 25 => 54 | 3 => 3 | 39 => 61 | 0 => 0 | 53 => 75 | 55 => 77 | 4 => 4 | 46 => 68 | 45 => 67 | 50 => 72 | 5 => 5 | 9 => 9 | 66 => 79 | 70 => 83 | 76 => 86 | 77 => 87 | n => n, fun | n => n⟩
theorem Try.sortE : Go.Proofs.SlLaysF0.n6 Try.prog Try.sortE_ren := {
  mixed := by kernel_rfl
  f6 := ⟨Try.f26.name, by decide, Try.func26.trans (congrArg some (by kernel_rfl))⟩
  f14 := ⟨Try.f35.name, by decide, Try.func35.trans (congrArg some (by kernel_rfl))⟩
  f15 := Try.func36.trans (congrArg some (by kernel_rfl))
  f20 := ⟨Try.f40.name, by decide, Try.func40.trans (congrArg some (by kernel_rfl))⟩
  f21 := ⟨Try.f41.name, by decide, Try.func41.trans (congrArg some (by kernel_rfl))⟩
  f22 := ⟨Try.f42.name, by decide, Try.func42.trans (congrArg some (by kernel_rfl))⟩
  f23 := ⟨Try.f43.name, by decide, Try.func43.trans (congrArg some (by kernel_rfl))⟩
  f24 := ⟨Try.f44.name, by decide, Try.func44.trans (congrArg some (by kernel_rfl))⟩
  f25 := ⟨Try.f45.name, by decide, Try.func45.trans (congrArg some (by kernel_rfl))⟩
  f26 := ⟨Try.f46.name, by decide, Try.func46.trans (congrArg some (by kernel_rfl))⟩
  f27 := ⟨Try.f47.name, by decide, Try.func47.trans (congrArg some (by kernel_rfl))⟩
  f28 := Try.func48.trans (congrArg some (by kernel_rfl))
  f29 := Try.func49.trans (congrArg some (by kernel_rfl))
  f46 := ⟨Try.f51.name, by decide, Try.func51.trans (congrArg some (by kernel_rfl))⟩
  f47 := Try.func52.trans (congrArg some (by kernel_rfl))
  f48 := Try.func53.trans (congrArg some (by kernel_rfl))
  f49 := ⟨Try.f54.name, by decide, Try.func54.trans (congrArg some (by kernel_rfl))⟩
  f50 := ⟨Try.f55.name, by decide, Try.func55.trans (congrArg some (by kernel_rfl))⟩
  f57 := ⟨Try.f57.name, by decide, Try.func57.trans (congrArg some (by kernel_rfl))⟩
  t0 := Try.underlying0
  a0 := Try.isAgg0
  z0 := Try.sizeOf0
  v0 := Try.zeroValue0
  t3 := Try.underlying3
  a3 := Try.isAgg3
  z3 := Try.sizeOf3
  v3 := Try.zeroValue3
  t4 := Try.underlying4
  a4 := Try.isAgg4
  z4 := Try.sizeOf4
  v4 := Try.zeroValue4
  t5 := Try.underlying5
  a5 := Try.isAgg5
  z5 := Try.sizeOf5
  v5 := Try.zeroValue5
  t9 := Try.underlying9
  a9 := Try.isAgg9
  z9 := Try.sizeOf9
  v9 := Try.zeroValue9
  t22 := Try.underlying22
  a22 := Try.isAgg22
  z22 := Try.sizeOf22
  v22 := Try.zeroValue22
  t25 := Try.underlying54
  a25 := Try.isAgg54
  z25 := Try.sizeOf54
  v25 := Try.zeroValue54
  t39 := Try.underlying61
  a39 := Try.isAgg61
  z39 := Try.sizeOf61
  v39 := Try.zeroValue61
  t45 := Try.underlying67
  a45 := Try.isAgg67
  z45 := Try.sizeOf67
  v45 := Try.zeroValue67
  t46 := Try.underlying68
  a46 := Try.isAgg68
  z46 := Try.sizeOf68
  v46 := Try.zeroValue68
  t50 := Try.underlying72
  a50 := Try.isAgg72
  z50 := Try.sizeOf72
  v50 := Try.zeroValue72
  t53 := Try.underlying75
  a53 := Try.isAgg75
  z53 := Try.sizeOf75
  v53 := Try.zeroValue75
  t55 := Try.underlying77
  a55 := Try.isAgg77
  z55 := Try.sizeOf77
  v55 := Try.zeroValue77
  t66 := Try.underlying79
  a66 := Try.isAgg79
  z66 := Try.sizeOf79
  v66 := Try.zeroValue79
  t70 := Try.underlying83
  a70 := Try.isAgg83
  z70 := Try.sizeOf83
  v70 := Try.zeroValue83
  t76 := Try.underlying86
  a76 := Try.isAgg86
  z76 := Try.sizeOf86
  v76 := Try.zeroValue86
  t77 := Try.underlying87
  a77 := Try.isAgg87
  z77 := Try.sizeOf87
  v77 := Try.zeroValue87 }
end Go.Proofs

namespace Go.Proofs.Ytgbcihbnaecejaa.Q
open Go Go.RowKit Go.Lib Go.Proofs.YtgbcihbnaecejaaW.PrintWords Go.Proofs.YtgbcihbnaecejaaW.PrintLast Go.Proofs.YtgbcihbnaecejaaW.PrintMore Go.Sort
set_option linter.unusedVariables false
set_option linter.unusedSimpArgs false
def cmpI (a b : Int) : Int := if a < b then -1 else if a > b then 1 else 0
theorem cmpI_c (a b : Int) (W : World) : Calls Try.prog 29 #[.int .i64 a, .int .i64 b] W fun e w' => e = .returned (.int .i64 (cmpI a b)) ∧ ∃ n, w' = W.drewN n := by
  have h : cmp_Compare_int.f a b = some (cmpI a b) := by
    unfold cmp_Compare_int.f cmp_isNaN_int.f cmpI
    by_cases h1 : a < b
    · simp [h1]
    · by_cases h2 : a > b <;> simp [h1, h2]
  exact (cmp_Compare_int.calls a b _ W h).mono fun e w' h => ⟨h.1, h.2.out⟩
def firstI (a b : Int) : Int := if a = 0 then b else a
theorem two_new0 (W : World) (a b : Value) (t : TypeId) : (W.alloc (.cells #[a, b] t)).cell? ⟨W.heap.size, 0, none⟩ = some a := blk_cell (heap_alloc_new W (.cells #[a, b] t)) 0
theorem two_new1 (W : World) (a b : Value) (t : TypeId) : (W.alloc (.cells #[a, b] t)).cell? ((⟨W.heap.size, 0, none⟩ : Addr).add 1) = some b := blk_cell (heap_alloc_new W (.cells #[a, b] t)) 1
theorem first_c (a b : Int) (A : Addr) (W : World) (h0 : W.cell? A = some (.int .i64 a)) (h1 : W.cell? (A.add 1) = some (.int .i64 b)) : Calls Try.prog 28 #[.slice (some A) 2 2] W fun e w' => e = .returned (.int .i64 (firstI a b)) ∧ ∃ n, w' = W.drewN n := by
  have hr : Kd.C (Kd.int .i64) W (some A) [a, b].length [a, b] := by
    refine ⟨rfl, by simp, fun _ => ⟨A, rfl, fun j p hp => ?_⟩⟩
    match j, hp with
    | 0, hp =>
      simp at hp
      subst hp
      exact ⟨[.int .i64 a], rfl, rfl, fun j u hu => by match j, hu with | 0, hu => simpa [Addr.add] using hu ▸ h0 | j + 1, hu => simp at hu⟩
    | 1, hp =>
      simp at hp
      subst hp
      exact ⟨[.int .i64 b], rfl, rfl, fun j u hu => by match j, hu with | 0, hu => simpa using hu ▸ h1 | j + 1, hu => simp at hu⟩
    | j + 2, hp => simp at hp
  have r0 : Go.Proofs.YtgbcihbnaecejaaW.PrintWords.rd [a, b] 0 = a := rfl
  have w1 : wrap64 (0 + 1) = 1 := by unfold wrap64; omega
  have w2 : wrap64 (1 + 1) = 2 := by unfold wrap64; omega
  have r1 : Go.Proofs.YtgbcihbnaecejaaW.PrintWords.rd [a, b] 1 = b := rfl
  have l2 : ((List.length [a, b] : Nat) : Int) = 2 := rfl
  have hf : orders_first.f 9 [a, b] = some (firstI a b) := by
    unfold firstI
    show orders_first.l0 9 [a, b] 2 0 = _
    simp only [orders_first.l0, l2, r0, w1, r1, w2]
    by_cases e : a = 0
    · by_cases e2 : b = 0
      · simp [e, e2]
      · simp [e, e2]
    · simp [e]
  exact (orders_first.calls 9 (some A) 2 [a, b] _ W hr (by simp) hf).mono fun e w' h => ⟨h.1, h.2.out⟩
def odEnc (x : Od) : List Value := [.int .i64 x.f0, .string x.f1, .string x.f2, .int .i64 x.f3, .int .i64 x.f4, .int .i64 x.f5, .int .i64 x.f6, .bool x.f7]
def odCmp (x y : Od) : Int := firstI (cmpI x.f3 y.f3) (cmpI x.f0 y.f0)
theorem od_lt (x y : Od) : ltOf odCmp x y = decide (lessO x y) := by
  unfold ltOf odCmp firstI cmpI lessO
  by_cases h1 : x.f3 < y.f3
  · simp [h1]
  · by_cases h2 : x.f3 > y.f3
    · simp [h1, h2]
      omega
    · by_cases h3 : x.f0 < y.f0
      · simp [h1, h2, h3]
        omega
      · by_cases h4 : x.f0 > y.f0 <;> simp [h1, h2, h3, h4]
theorem od_swo : SWO (ltOf odCmp) where
  irrefl x := by rw [od_lt]; simp [lessO]
  trans x y z h1 h2 := by
    rw [od_lt, decide_eq_true_eq] at *
    exact lessO_trans h1 h2
  ntrans x y z h1 h2 := by
    rw [od_lt, decide_eq_false_iff_not] at *
    unfold lessO at *
    omega
theorem od_flat : Flat k24 odEnc where
  m := ⟨fun h => k24_openM h, fun h => h ▸ k24_mkM _ _ _ _⟩
  len _ := rfl
  one x v hv := by
    simp only [odEnc, List.mem_cons, List.not_mem_nil, or_false] at hv
    rcases hv with rfl | rfl | rfl | rfl | rfl | rfl | rfl | rfl <;> rfl
set_option maxRecDepth 100000 in
set_option maxHeartbeats 4000000 in
theorem od_clos (x y : Od) (W : World) :
    Calls Try.prog 27 #[.agg #[.int .i64 x.f0, .string x.f1, .string x.f2, .int .i64 x.f3, .int .i64 x.f4, .int .i64 x.f5, .int .i64 x.f6, .bool x.f7], .agg #[.int .i64 y.f0, .string y.f1, .string y.f2, .int .i64 y.f3, .int .i64 y.f4, .int .i64 y.f5, .int .i64 y.f6, .bool y.f7]] W fun e w' => e = .returned (.int .i64 (odCmp x y)) ∧ GrewD W w' := by
  go_enter Try.func27, Try.ntmps27
  go_wp2
  have hg : GrewD W ((W.alloc (.cells #[.int .i64 x.f0, .string x.f1, .string x.f2, .int .i64 x.f3, .int .i64 x.f4, .int .i64 x.f5, .int .i64 x.f6, .bool x.f7] 24)).alloc (.cells #[.int .i64 y.f0, .string y.f1, .string y.f2, .int .i64 y.f3, .int .i64 y.f4, .int .i64 y.f5, .int .i64 y.f6, .bool y.f7] 24)) := ((GrewD.refl W).alloc _).alloc _
  have hx0 : ((W.alloc (.cells #[.int .i64 x.f0, .string x.f1, .string x.f2, .int .i64 x.f3, .int .i64 x.f4, .int .i64 x.f5, .int .i64 x.f6, .bool x.f7] 24)).alloc (.cells #[.int .i64 y.f0, .string y.f1, .string y.f2, .int .i64 y.f3, .int .i64 y.f4, .int .i64 y.f5, .int .i64 y.f6, .bool y.f7] 24)).heap[W.heap.size]? = some (.cells #[.int .i64 x.f0, .string x.f1, .string x.f2, .int .i64 x.f3, .int .i64 x.f4, .int .i64 x.f5, .int .i64 x.f6, .bool x.f7] 24) := blk_alloc (heap_alloc_new W _) _
  have hy0 : ((W.alloc (.cells #[.int .i64 x.f0, .string x.f1, .string x.f2, .int .i64 x.f3, .int .i64 x.f4, .int .i64 x.f5, .int .i64 x.f6, .bool x.f7] 24)).alloc (.cells #[.int .i64 y.f0, .string y.f1, .string y.f2, .int .i64 y.f3, .int .i64 y.f4, .int .i64 y.f5, .int .i64 y.f6, .bool y.f7] 24)).heap[W.heap.size + 1]? = some (.cells #[.int .i64 y.f0, .string y.f1, .string y.f2, .int .i64 y.f3, .int .i64 y.f4, .int .i64 y.f5, .int .i64 y.f6, .bool y.f7] 24) := by simpa using heap_alloc_new (W.alloc (.cells #[.int .i64 x.f0, .string x.f1, .string x.f2, .int .i64 x.f3, .int .i64 x.f4, .int .i64 x.f5, .int .i64 x.f6, .bool x.f7] 24)) (.cells #[.int .i64 y.f0, .string y.f1, .string y.f2, .int .i64 y.f3, .int .i64 y.f4, .int .i64 y.f5, .int .i64 y.f6, .bool y.f7] 24)
  generalize ((W.alloc (.cells #[.int .i64 x.f0, .string x.f1, .string x.f2, .int .i64 x.f3, .int .i64 x.f4, .int .i64 x.f5, .int .i64 x.f6, .bool x.f7] 24)).alloc (.cells #[.int .i64 y.f0, .string y.f1, .string y.f2, .int .i64 y.f3, .int .i64 y.f4, .int .i64 y.f5, .int .i64 y.f6, .bool y.f7] 24)) = W2 at hg hx0 hy0 ⊢
  generalize W.heap.size + 1 = gy at hy0 ⊢
  generalize W.heap.size = gx at hx0 ⊢
  have a0 := blk_cell hx0 0
  have a3 := blk_cell hx0 3
  have b0 := blk_cell hy0 0
  have b3 := blk_cell hy0 3
  simp only [List.getElem?_toArray, List.getElem?_cons_zero, List.getElem?_cons_succ] at a0 a3 b0 b3
  have HG := Lib.hid hg
  clear hg hx0 hy0
  go_region_held3 (fun w' => w'.cell? ⟨gx, 0, none⟩ = some (.int .i64 x.f0) ∧ w'.cell? ⟨gx, 3, none⟩ = some (.int .i64 x.f3) ∧ w'.cell? ⟨gy, 0, none⟩ = some (.int .i64 y.f0) ∧ w'.cell? ⟨gy, 3, none⟩ = some (.int .i64 y.f3)) (go_keep)
    (first | (go_at_call 29; refine (cmpI_c _ _ _).mono ?_; rintro e w' ⟨rfl, n, rfl⟩) | (go_at_call 28; refine (first_c (cmpI x.f3 y.f3) (cmpI x.f0 y.f0) _ _ (two_new0 _ _ _ _) (two_new1 _ _ _ _)).mono ?_; rintro e w' ⟨rfl, n, rfl⟩))
  go_wp2
  go_ret
  exact ⟨rfl, by repeat (first | exact HG.out | apply GrewD.drewN | apply GrewD.drew | apply GrewD.alloc)⟩
instance : Inhabited Od := ⟨z24⟩
theorem od_lays (cb : Nat) (blk size : Nat) (w : World) : CmpLays Try.prog 27 #[] odEnc 8 odCmp blk 0 size w := by
  intro m os dk hs x y
  exact od_clos x y _
theorem od_sorted (xs : List Od) (hd : xs.Pairwise (fun a b => a.f0 ≠ b.f0)) : (sortd odCmp xs).Perm xs ∧ (sortd odCmp xs).Pairwise lessO := by
  obtain ⟨h1, h2⟩ := sortd_size od_swo xs
  refine ⟨h1, ?_⟩
  have hd' : (sortd odCmp xs).Pairwise (fun a b => a.f0 ≠ b.f0) := h1.symm.pairwise hd (fun {a b} h => fun e => h e.symm)
  rw [List.pairwise_iff_getElem] at hd' ⊢
  intro i j hi hj hij
  have h3 := h2 i j hij (by rw [h1.length_eq] at hj; exact hj)
  rw [getElem!_pos (sortd odCmp xs) i hi, getElem!_pos (sortd odCmp xs) j hj, od_lt, decide_eq_false_iff_not] at h3
  have h4 := hd' i j hi hj hij
  unfold lessO at h3 ⊢
  omega
theorem od_sort_c {w : World} {base : Nat} {v : Value} {xs : List Od} (h : w.ownsRow base 24 8 v xs.length (xs.flatMap odEnc)) (hd : xs.Pairwise (fun a b => a.f0 ≠ b.f0)) (hl : xs.length ≤ 400) :
    Calls Try.prog 26 #[v, .func (.func 27) #[] #[]] w fun e w' => e = .returned (.tuple #[]) ∧ Kd.R k24 24 w' base (fun _ => True) v (sortO xs) ∧ w.grownBy w' v.ownBlock := by
  have eg := enters_of Try.func27 (by kernel_rfl) rfl
  have hR : Kd.R k24 24 w base (fun _ => True) v xs := (R_flat od_flat).2 ⟨fun _ _ => trivial, h⟩
  refine (R_sorted od_flat Try.sortE Try.isAgg24 Try.sizeOf24 odCmp od_swo 27 #[] eg hR (fun blk _ => od_lays 0 blk _ _) (by omega)).mono ?_
  rintro e w' ⟨rfl, h2, h3⟩
  obtain ⟨p1, p2⟩ := od_sorted xs hd
  rw [sortO_of_perm hd p1 p2] at h2
  exact ⟨rfl, h2, h3⟩
end Go.Proofs.Ytgbcihbnaecejaa.Q

namespace Go.Proofs
open Go.Shelf
def Try.l21_ren : Go.Shelf.Ren := ⟨fun | 8 => 21 | 6 => 33 | n => n, fun | 22 => 22 | 23 => 24 | 25 => 42 | 4 => 4 | 3 => 3 | 0 => 0 | n => n, fun | n => n⟩
theorem Try.l21 : Go.Proofs.SlLaysH0.n8 Try.prog Try.l21_ren := {
  mixed := by kernel_rfl
  f6 := ⟨Try.f33.name, by decide, Try.func33.trans (congrArg some (by kernel_rfl))⟩
  f8 := ⟨Try.f21.name, by decide, Try.func21.trans (congrArg some (by kernel_rfl))⟩
  t0 := Try.underlying0
  a0 := Try.isAgg0
  z0 := Try.sizeOf0
  v0 := Try.zeroValue0
  t3 := Try.underlying3
  a3 := Try.isAgg3
  z3 := Try.sizeOf3
  v3 := Try.zeroValue3
  t4 := Try.underlying4
  a4 := Try.isAgg4
  z4 := Try.sizeOf4
  v4 := Try.zeroValue4
  t22 := Try.underlying22
  a22 := Try.isAgg22
  z22 := Try.sizeOf22
  v22 := Try.zeroValue22
  t25 := Try.underlying42
  a25 := Try.isAgg42
  z25 := Try.sizeOf42
  v25 := Try.zeroValue42 }
end Go.Proofs
