/- OrdersClocks returns true for every list of orders, order, person, month and day: whatever its arguments read as, there is no condition.
   The walk of the law's code and its plain law (merged by wip/tools/trim.py out of own texts and of texts that the kit's printer wrote). -/
import Derived.Test.YtgbcihbnaecejaaCClk3
import Derived.Maps.AppendAt
import Derived.WalkSpells
import Derived.Deep.QuietTactic
import Derived.BigQuiet
import Derived.Deep.RegionLaw
import Derived.Deep.RegionWith
import Derived.Test.YtgbcihbnaecejaaRows
import Derived.WalkKit
import Derived.ProofKit
import Derived.OpenShut
import Derived.ShutString
import Derived.ChangeOld
import Derived.Below
import Derived.SizedLaws
namespace Go.Proofs.Ytgbcihbnaecejaa.Q
open Go Go.RowKit Go.Proofs.YtgbcihbnaecejaaW.PrintWords Go.Proofs.YtgbcihbnaecejaaW.PrintLast Go.Proofs.YtgbcihbnaecejaaW.PrintMore
set_option linter.unusedVariables false
set_option linter.unusedSimpArgs false
theorem clone_od.nil (c0 : Nat) (w : World) :
    Calls Try.prog 23 #[.slice none 0 c0] w fun e w' => ∃ v0_ : Value, e = .returned v0_ ∧ Kd.R k24 24 w' w.heap.size (fun _ => True) v0_ [] ∧ Below w.heap.size w w' := by
  have hq := fun (W : World) => Lib.run_eql_slice_nil W 22 24 none 0 c0 0 0 Try.underlying22
  go_enter Try.func23, Try.ntmps23
  go_wp2
  go_ret
  exact ⟨_, rfl, Kd.R_nil _ _ _ _ _, Below.refl _ _⟩
set_option maxHeartbeats 1000000 in
theorem clone_od.some_ (A0 : Addr) (c0 : Nat) (l0 : List Od) (w : World) (hr0 : Kd.C k24 w (some A0) l0.length l0) (hc0 : l0.length ≤ c0) (hl : l0.length < 1759218604441) :
    Calls Try.prog 23 #[.slice (some A0) l0.length c0] w fun e w' => ∃ v0_ : Value, e = .returned v0_ ∧ Kd.R k24 24 w' w.heap.size (fun _ => True) v0_ l0 ∧ Below w.heap.size w w' := by
  have HR0 := Aside0.mk hr0
  have HC0 := Aside0.mk hc0
  have LM := Aside0.mk hl
  clear hr0 hc0 hl
  have hq := fun (W : World) => Lib.run_eql_slice_nil W 22 24 (some A0) l0.length c0 0 0 Try.underlying22
  have HB := Aside0.mk (Below.refl w.heap.size w)
  go_enter Try.func23, Try.ntmps23
  go_wp2_with (first | ((with_reducible refine gate_dst (N := 5) rfl ?_); refine Kd.R_lit k24 w.heap.size 24 ?hg (N := 5) ?hd (w0 := w) (xs := ([] : List Od)) (inner := []) (ok := fun _ => True) (okp := fun _ => True) ?hr ?hp (fun _ hk => hk) trivial (Below.refl _ _) (Nat.le_refl _) (by simp) ?_; (case hd => rfl); (case hg => rfl); (case hr => first | (go_simp; done) | (go_simp; rfl)); (case hp => exact Reps.none _ _); intro v1 w1 ho hb hg hat; have HO := Aside0.mk ho; clear HB; have HB := Aside0.mk hb; clear ho hb hg hat) | ((with_reducible refine gate_builtin (b := .append) (xs := #[.tmp 5, .tmp 6]) rfl ?_); at_builtin; refine Kd.R_append_rows k24 (w0 := w) w.heap.size rfl (.tmp 5) (.tmp 6) 22 24 (.agg #[(.int .i64 0), (.string ⟨#[]⟩), (.string ⟨#[]⟩), (.int .i64 0), (.int .i64 0), (.int .i64 0), (.int .i64 0), (.bool false)]) 80 rfl Try.underlying22 info24 rfl (by decide) (by omega) v1 ([] : List Od) l0 _ _ _ (fun _ => True) (fun _ => False) rfl rfl ?aO ?aR (fun _ _ h => h) (fun _ h => h.elim) ?aF ?aB ?aS ?aL ?_; (case aR => exact Kd.C_below HR0.out HB.out); (case aB => exact HB.out); (case aF => exact (fun _ _ => trivial)); (case aO => exact HO.out); (case aS => exact below_size HB.out); (case aL => have := LM.out; simp only [List.length_nil]; omega); intro v2 w2 ho hb hg hat; rw [List.nil_append] at ho; clear HO HB; have HO := Aside0.mk ho; have HB := Aside0.mk hb; clear ho hb hg hat))
  go_ret
  exact ⟨_, rfl, HO.out, HB.out⟩
theorem clone_od (A0 : Option Addr) (c0 : Nat) (l0 : List Od) (w : World) (hr0 : Kd.C k24 w A0 l0.length l0) (hc0 : l0.length ≤ c0) (hl : l0.length < 1759218604441) :
    Calls Try.prog 23 #[.slice A0 l0.length c0] w fun e w' => ∃ v0_ : Value, e = .returned v0_ ∧ Kd.R k24 24 w' w.heap.size (fun _ => True) v0_ l0 ∧ Below w.heap.size w w' := by
  cases A0 with
  | none =>
    have h0 : l0 = [] := by
      rcases Nat.eq_zero_or_pos l0.length with h | h
      · exact List.eq_nil_of_length_eq_zero h
      · obtain ⟨ad, h1, _⟩ := hr0.2.2 h
        cases h1
    subst h0
    exact clone_od.nil c0 w
  | some A0 => exact clone_od.some_ A0 c0 l0 w hr0 hc0 hl
def recO (l : List Od) (o : Od) : List Od × Int :=
  if valid l = true ∧ formedOk o = true then (if lastLe l o = true then (if sameParties l o = true then (if valid (l ++ [o]) = true then (l ++ [o], 0) else ([], 2)) else ([], 311)) else ([], 6)) else ([], 1)
def clash (o x : Od) : Bool := decide (x.f0 = o.f0 ∧ ¬ (x.f1 = o.f1 ∧ x.f2 = o.f2))
theorem any_clash (l : List Od) (o : Od) : l.any (clash o) = !sameParties l o := by
  unfold sameParties
  rw [Bool.eq_iff_iff, List.any_eq_true, Bool.not_eq_true', ← Bool.not_eq_true, List.all_eq_true]
  constructor
  · rintro ⟨x, hx, hc⟩ h
    have h1 := of_decide_eq_true hc
    exact h1.2 (of_decide_eq_true (h x hx) h1.1)
  · intro h
    refine Classical.byContradiction fun hn => h fun x hx => decide_eq_true fun h0 => Classical.byContradiction fun h1 => hn ⟨x, hx, decide_eq_true ⟨h0, h1⟩⟩
set_option maxHeartbeats 2000000 in
theorem clash_pred (o : Od) (B : Nat) (w : World) (hb : w.heap[B]? = some (.cells #[.int .i64 o.f0, .string o.f1, .string o.f2, .int .i64 o.f3, .int .i64 o.f4, .int .i64 o.f5, .int .i64 o.f6, .bool o.f7] 24 (0, 0))) :
    PredBelow Try.prog 22 #[.pointer (some ⟨B, 0, none⟩)] (fun x => .agg (odEnc x).toArray) (clash o) w := fun W x hbl => by
  have h1 := blk_below hb hbl
  have hB : B < w.heap.size := (Array.getElem?_eq_some_iff.1 hb).1
  have hBW : B < W.heap.size := Nat.lt_of_lt_of_le hB hbl.size
  obtain ⟨v0, v1, v2, -, -, -, -, -⟩ := od_blk h1
  have HB := Lib.hid hbl
  clear h1 hbl hb
  show Calls Try.prog 22 #[.agg #[.int .i64 x.f0, .string x.f1, .string x.f2, .int .i64 x.f3, .int .i64 x.f4, .int .i64 x.f5, .int .i64 x.f6, .bool x.f7], .pointer (some ⟨B, 0, none⟩)] W _
  by_cases h0 : x.f0 = o.f0
  · by_cases h1 : x.f1 = o.f1
    · by_cases h2 : x.f2 = o.f2
      · have HR := Lib.hid (show clash o x = false from decide_eq_false (fun h => h.2 ⟨h1, h2⟩))
        rw [h0, h1, h2]
        clear h0 h1 h2
        go_enter Try.func22, Try.ntmps22
        go_wp2
        go_ret
        exact ⟨by rw [HR.out]; rfl, below_alloc HB.out _⟩
      · have HR := Lib.hid (show clash o x = true from decide_eq_true ⟨h0, fun h => h2 h.2⟩)
        have ne : ¬ x.f2.toList = o.f2.toList := fun h => h2 (str_eq.1 h)
        have ne' : (x.f2.toList == o.f2.toList) = false := beq_eq_false_iff_ne.2 ne
        rw [h0, h1]
        clear h0 h1 h2
        go_enter Try.func22, Try.ntmps22
        go_wp2
        go_ret
        exact ⟨by rw [HR.out]; rfl, below_alloc HB.out _⟩
    · have HR := Lib.hid (show clash o x = true from decide_eq_true ⟨h0, fun h => h1 h.1⟩)
      have ne : ¬ x.f1.toList = o.f1.toList := fun h => h1 (str_eq.1 h)
      have ne' : (x.f1.toList == o.f1.toList) = false := beq_eq_false_iff_ne.2 ne
      rw [h0]
      clear h0 h1
      go_enter Try.func22, Try.ntmps22
      go_wp2
      go_ret
      exact ⟨by rw [HR.out]; rfl, below_alloc HB.out _⟩
  · have HR := Lib.hid (show clash o x = false from decide_eq_false (fun h => h0 h.1))
    go_enter Try.func22, Try.ntmps22
    go_wp2
    go_ret
    exact ⟨by rw [HR.out]; rfl, below_alloc HB.out _⟩
theorem last_le {l : List Od} {o : Od} (h : 0 < l.length) : lastLe l o = decide ((odAt l (l.length - 1)).f4 ≤ o.f4) := by
  have e := take_odAt (l := l) (i := l.length - 1) (by omega)
  rw [Nat.sub_add_cancel h, List.take_length] at e
  unfold lastLe
  conv => lhs; rw [e]
  rw [List.getLast?_concat]
theorem addr_plain {w : World} {a : Addr} {v : Value} (h : w.cell? a = some v) : a = ⟨a.block, a.off, none⟩ := by
  cases a with
  | mk b o s =>
    cases s with
    | none => rfl
    | some s =>
      unfold World.cell? at h
      split at h <;> simp at h
theorem contains_some (A0 : Option Addr) (c0 : Nat) (l : List Od) (o : Od) (B : Nat) (w : World) (hr : Kd.C k24 w A0 l.length l) (hl : 0 < l.length) (hlen : l.length ≤ 400) (hb : w.heap[B]? = some (.cells #[.int .i64 o.f0, .string o.f1, .string o.f2, .int .i64 o.f3, .int .i64 o.f4, .int .i64 o.f5, .int .i64 o.f6, .bool o.f7] 24 (0, 0))) :
    Calls Try.prog 21 #[.slice A0 l.length c0, .func (.func 22) #[] #[.pointer (some ⟨B, 0, none⟩)]] w fun e w' => e = .returned (.bool (!sameParties l o)) ∧ Below w.heap.size w w' := by
  have eg : ∀ args w, (callFunc 22 args).run Try.prog w = .ok (.enter 22 args) w := enters_of Try.func22 (by kernel_rfl) rfl
  obtain ⟨ad, rfl, q0, -⟩ := od_cells hr (i := 0) hl
  have hp : ad.add (0 * 8) = ad := by simp [Addr.add]
  rw [hp] at q0
  have hpl := addr_plain q0
  have hbk : ad.block < w.heap.size := World.block_lt_of_cell? w ad q0
  rw [hpl]
  have h := AnyQ.slices_ContainsFunc Try.l21 8 Try.isAgg24 Try.sizeOf24 odEnc (fun _ => rfl) (clash o) 22 #[.pointer (some ⟨B, 0, none⟩)] eg ad.block ad.off l.length c0 l w (clash_pred o B w hb) (Nat.le_refl _) (by omega) hbk (fun j hj i v hi => by
    obtain ⟨ad', e', h0, h1, h2, h3, h4, h5, h6, h7⟩ := od_cells hr hj
    cases e'
    have eo : l[j]! = odAt l j := by
      unfold odAt
      rw [getElem!_pos l j hj, List.getD_eq_getElem?_getD, List.getElem?_eq_getElem hj]
      rfl
    rw [eo] at hi
    rw [hpl] at h0 h1 h2 h3 h4 h5 h6 h7
    have ea : (Addr.mk ad.block ad.off none).add (j * 8) = ⟨ad.block, ad.off + j * 8, none⟩ := by rw [Addr.add_lit]
    rw [ea] at h0 h1 h2 h3 h4 h5 h6 h7
    match i, hi with
    | 0, hi => simp [odEnc] at hi; rw [← hi]; exact h0
    | 1, hi => simp [odEnc] at hi; rw [← hi]; exact h1
    | 2, hi => simp [odEnc] at hi; rw [← hi]; exact h2
    | 3, hi => simp [odEnc] at hi; rw [← hi]; exact h3
    | 4, hi => simp [odEnc] at hi; rw [← hi]; exact h4
    | 5, hi => simp [odEnc] at hi; rw [← hi]; exact h5
    | 6, hi => simp [odEnc] at hi; rw [← hi]; exact h6
    | 7, hi => simp [odEnc] at hi; rw [← hi]; exact h7
    | i + 8, hi => simp [odEnc] at hi)
  rw [List.take_length, any_clash] at h
  exact h
set_option maxRecDepth 100000 in
set_option maxHeartbeats 2000000 in
theorem contains_nil (A0 : Option Addr) (c0 : Nat) (B : Nat) (w : World) :
    Calls Try.prog 21 #[.slice A0 0 c0, .func (.func 22) #[] #[.pointer (some ⟨B, 0, none⟩)]] w fun e w' => e = .returned (.bool false) ∧ w' = w := by
  go_enter Try.func21, Try.ntmps21
  go_wp2
  refine wp_loop_rounds 1 ?_
  rw [rounds_succ]
  go_wp2
  go_ret
  exact ⟨rfl, rfl⟩
theorem contains_any (A0 : Option Addr) (c0 : Nat) (l : List Od) (o : Od) (B : Nat) (w : World) (hr : Kd.C k24 w A0 l.length l) (hlen : l.length ≤ 400) (hb : w.heap[B]? = some (.cells #[.int .i64 o.f0, .string o.f1, .string o.f2, .int .i64 o.f3, .int .i64 o.f4, .int .i64 o.f5, .int .i64 o.f6, .bool o.f7] 24 (0, 0))) :
    Calls Try.prog 21 #[.slice A0 l.length c0, .func (.func 22) #[] #[.pointer (some ⟨B, 0, none⟩)]] w fun e w' => e = .returned (.bool (!sameParties l o)) ∧ Below w.heap.size w w' := by
  by_cases h : 0 < l.length
  · exact contains_some A0 c0 l o B w hr h hlen hb
  · obtain rfl : l = [] := List.eq_nil_of_length_eq_zero (by omega)
    refine (contains_nil A0 c0 B w).mono ?_
    rintro e w' ⟨rfl, rfl⟩
    exact ⟨rfl, Below.refl _ _⟩
def orders_Record.f (l0 : List Od) (a1_0 : Int) (a1_1 : ByteArray) (a1_2 : ByteArray) (a1_3 : Int) (a1_4 : Int) (a1_5 : Int) (a1_6 : Int) (a1_7 : Bool) : Option ((List Od) × Int) := some (recO l0 ⟨a1_0, a1_1, a1_2, a1_3, a1_4, a1_5, a1_6, a1_7⟩)
def RecPost (w : World) (r : List Od × Int) (e : Ending) (w' : World) : Prop := ∃ v0_ : Value, e = .returned (.tuple #[v0_, .int .i64 r.2]) ∧ Kd.R k24 24 w' w.heap.size (fun _ => True) v0_ r.1 ∧ Below w.heap.size w w'
set_option maxRecDepth 100000 in
set_option maxHeartbeats 2000000 in
theorem record_any (A0 : Option Addr) (c0 : Nat) (l0 : List Od) (o : Od) (w : World) (hr0 : Kd.C k24 w A0 l0.length l0) (hc0 : l0.length ≤ c0) :
    Calls Try.prog 12 #[.slice A0 l0.length c0, .agg #[.int .i64 o.f0, .string o.f1, .string o.f2, .int .i64 o.f3, .int .i64 o.f4, .int .i64 o.f5, .int .i64 o.f6, .bool o.f7]] w (RecPost w (recO l0 o)) := by
  have HC := Lib.hid hr0
  have HL := Lib.hid hc0
  clear hr0 hc0
  cases hv : valid l0 with
  | false =>
    have HVC := Lib.hid (fun (W : World) (hW : Below w.heap.size w W) => hv ▸ valid_any A0 c0 l0 W (Kd.C_below HC.out hW) HL.out)
    have HR := Lib.hid (show recO l0 o = ([], 1) from by unfold recO; rw [if_neg (fun h => by rw [hv] at h; cases h.1)])
    clear hv
    go_enter Try.func12, Try.ntmps12
    go_wp2_with (first | (go_at_call 14; refine (HVC.out _ (by repeat (first | exact Below.refl _ _ | apply below_alloc | apply pw_below_drewN))).mono ?_; rintro e w1 ⟨rfl, hb⟩; have HB := Lib.hid (below_step (below_alloc (Below.refl w.heap.size w) (.cells #[.int .i64 o.f0, .string o.f1, .string o.f2, .int .i64 o.f3, .int .i64 o.f4, .int .i64 o.f5, .int .i64 o.f6, .bool o.f7] 24)) hb); have HO := Lib.hid (blk_below (World.alloc_heap_new w (.cells #[.int .i64 o.f0, .string o.f1, .string o.f2, .int .i64 o.f3, .int .i64 o.f4, .int .i64 o.f5, .int .i64 o.f6, .bool o.f7] 24)) hb); obtain ⟨v0, v1, v2, v3, v4, v5, v6, v7⟩ := od_blk HO.out; have hs1 := hb.size; clear hb) | (go_at_call 20; refine (HF.out _).mono ?_; rintro e w2 ⟨rfl, hb⟩; have HB2 := Lib.hid (below_step HB.out hb); have HO2 := Lib.hid (blk_below HO.out hb); obtain ⟨v0, v1, v2, v3, v4, v5, v6, v7⟩ := od_blk HO2.out; clear hb) | go_in)
    go_ret2
    rw [HR.out]
    exact ⟨_, rfl, Kd.R_nil _ _ _ _ _, HB.out⟩
  | true =>
    have HVC := Lib.hid (fun (W : World) (hW : Below w.heap.size w W) => hv ▸ valid_any A0 c0 l0 W (Kd.C_below HC.out hW) HL.out)
    have hlen := ((valid_iff l0).1 hv).1
    cases hf : formedOk o with
    | false =>
      have HF := Lib.hid (formed_b hf)
      have HR := Lib.hid (show recO l0 o = ([], 1) from by unfold recO; rw [if_neg (fun h => by rw [hf] at h; cases h.2)])
      clear hv hf
      go_enter Try.func12, Try.ntmps12
      go_wp2_with (first | (go_at_call 14; refine (HVC.out _ (by repeat (first | exact Below.refl _ _ | apply below_alloc | apply pw_below_drewN))).mono ?_; rintro e w1 ⟨rfl, hb⟩; have HB := Lib.hid (below_step (below_alloc (Below.refl w.heap.size w) (.cells #[.int .i64 o.f0, .string o.f1, .string o.f2, .int .i64 o.f3, .int .i64 o.f4, .int .i64 o.f5, .int .i64 o.f6, .bool o.f7] 24)) hb); have HO := Lib.hid (blk_below (World.alloc_heap_new w (.cells #[.int .i64 o.f0, .string o.f1, .string o.f2, .int .i64 o.f3, .int .i64 o.f4, .int .i64 o.f5, .int .i64 o.f6, .bool o.f7] 24)) hb); obtain ⟨v0, v1, v2, v3, v4, v5, v6, v7⟩ := od_blk HO.out; have hs1 := hb.size; clear hb) | (go_at_call 20; refine (HF.out _).mono ?_; rintro e w2 ⟨rfl, hb⟩; have HB2 := Lib.hid (below_step HB.out hb); have HO2 := Lib.hid (blk_below HO.out hb); obtain ⟨v0, v1, v2, v3, v4, v5, v6, v7⟩ := od_blk HO2.out; clear hb) | go_in)
      go_ret2
      rw [HR.out]
      exact ⟨_, rfl, Kd.R_nil _ _ _ _ _, HB2.out⟩
    | true =>
      have HF := Lib.hid (formed_b hf)
      have hR1 : recO l0 o = (if lastLe l0 o = true then (if sameParties l0 o = true then (if valid (l0 ++ [o]) = true then (l0 ++ [o], 0) else ([], 2)) else ([], 311)) else ([], 6)) := by unfold recO; rw [if_pos ⟨hv, hf⟩]
      have HR1 := Lib.hid hR1
      clear hv hf hR1
      go_enter Try.func12, Try.ntmps12
      go_wp2_with (first | (go_at_call 14; refine (HVC.out _ (by repeat (first | exact Below.refl _ _ | apply below_alloc | apply pw_below_drewN))).mono ?_; rintro e w1 ⟨rfl, hb⟩; have HB := Lib.hid (below_step (below_alloc (Below.refl w.heap.size w) (.cells #[.int .i64 o.f0, .string o.f1, .string o.f2, .int .i64 o.f3, .int .i64 o.f4, .int .i64 o.f5, .int .i64 o.f6, .bool o.f7] 24)) hb); have HO := Lib.hid (blk_below (World.alloc_heap_new w (.cells #[.int .i64 o.f0, .string o.f1, .string o.f2, .int .i64 o.f3, .int .i64 o.f4, .int .i64 o.f5, .int .i64 o.f6, .bool o.f7] 24)) hb); obtain ⟨v0, v1, v2, v3, v4, v5, v6, v7⟩ := od_blk HO.out; have hs1 := hb.size; clear hb) | (go_at_call 20; refine (HF.out _).mono ?_; rintro e w2 ⟨rfl, hb⟩; have HB2 := Lib.hid (below_step HB.out hb); have HO2 := Lib.hid (blk_below HO.out hb); obtain ⟨v0, v1, v2, v3, v4, v5, v6, v7⟩ := od_blk HO2.out; clear hb) | go_in)
      have HCL := Lib.hid (fun (W : World) (hW : Below w.heap.size w W) => clone_od A0 c0 l0 W (Kd.C_below HC.out hW) HL.out (by omega))
      by_cases h0 : l0.length = 0
      · have z0 : decide (0 < l0.length) = false := decide_eq_false (by omega)
        have HLL : Hid (lastLe l0 o = true) := Lib.hid (by rw [List.eq_nil_of_length_eq_zero h0]; rfl)
        clear h0
        go_quiet (fail)
        have HCF := Lib.hid (fun (n : Nat) => contains_any A0 c0 l0 o w.heap.size (w2.drewN n) (Kd.C_below HC.out (pw_below_drewN HB2.out n)) (by omega) (blk_drewN HO2.out n))
        cases hsp : sameParties l0 o with
        | false =>
          have HR := Lib.hid (show recO l0 o = ([], 311) from by rw [HR1.out, if_pos HLL.out, if_neg (by rw [hsp]; simp)])
          have HSP := Lib.hid hsp
          clear hsp
          go_wp2_with fail
          refine (HCF.out _).mono ?_
          rintro e w3 ⟨rfl, hb⟩
          have HB3 := Lib.hid (below_step (pw_below_drewN HB2.out _) hb)
          rw [HSP.out]
          clear hb
          go_wp2_with fail
          go_ret2
          rw [HR.out]
          exact ⟨_, rfl, Kd.R_nil _ _ _ _ _, HB3.out⟩
        | true =>
          have HR3 := Lib.hid (show recO l0 o = (if valid (l0 ++ [o]) = true then (l0 ++ [o], 0) else ([], 2)) from by rw [HR1.out, if_pos HLL.out, if_pos hsp])
          have HSP := Lib.hid hsp
          clear hsp
          go_wp2_with fail
          refine (HCF.out _).mono ?_
          rintro e w3 ⟨rfl, hb⟩
          have H3 := Lib.hid (And.intro (blk_below (blk_drewN HO2.out _) hb) (below_step (pw_below_drewN HB2.out _) hb))
          rw [HSP.out]
          clear hb
          go_wp2_with fail
          refine start_ (n := 6) (S := fun W => W.heap[w.heap.size]? = some (.cells #[.int .i64 o.f0, .string o.f1, .string o.f2, .int .i64 o.f3, .int .i64 o.f4, .int .i64 o.f5, .int .i64 o.f6, .bool o.f7] 24 (0, 0)) ∧ Below w.heap.size w W) (ds := [4]) #[false, false, false, false, false, false] (by kernel_rfl) rfl rfl ⟨blk_drew H3.out.1, below_drew1 H3.out.2⟩ (fun hHeld => ?_)
          clear v0 v1 v2 v3 v4 v5 v6 v7
          generalize w3.drew = w4 at hHeld ⊢
          refine pure_ (i := 0) (N := (some 34)) (v := ?_) (a' := ?_) #[true, false, false, false, false, false] rfl rfl (by kernel_rfl) (fun _ _ _ h => h) (Or.inl ⟨by rfl, ?_⟩) ?_ ?_
          rotate_left
          · intro w'
            go_simp
            with_reducible rfl
          rotate_left
          · simp only [Act.put, List.setIfInBounds_toArray, List.set_cons_zero, List.set_cons_succ, i64_w, i32_w]
            rfl
          refine take_ (i := 2) (N := (some 36)) (v := ?_) (a' := ?_) #[true, false, true, false, false, false] rfl rfl (by kernel_rfl) (fun _ _ _ h => h) (Or.inl ⟨by rfl, ?_⟩) hHeld ?_ ?_
          rotate_left
          · rintro w' ⟨s, -⟩
            obtain ⟨c0, c1, c2, c3, c4, c5, c6, c7⟩ := od_blk s
            clear s
            go_simp
            with_reducible rfl
          rotate_left
          · simp only [Act.put, List.setIfInBounds_toArray, List.set_cons_zero, List.set_cons_succ, i64_w, i32_w]
            rfl
          refine two_ (i := 1) (j := 3) (Ni := some 35) (Nj := some 37) #[true, true, true, false, false, false] #[true, false, true, true, false, false] rfl rfl rfl rfl (by kernel_rfl) (by decide) (by decide) (fun K hK => ?_) (fun K hK => ?_)
          · refine goes_ Try.func23 (by kernel_rfl) rfl #[.slice A0 l0.length c0] (by rfl) rfl rfl (by (try simp only [List.map_toArray, List.map_cons, List.map_nil]); first | done | rfl) ?_
            with_reducible refine (HCL.out _ hHeld.2).mono ?_
            rintro e w5 ⟨v1, rfl, hR, hb⟩
            have H1 := Lib.hid (And.intro (Kd.R_lower hR hHeld.2.size) (And.intro (blk_below hHeld.1 hb) (below_step hHeld.2 hb)))
            clear hR hb
            refine ⟨_, rfl, ?_⟩
            refine hK.out _ _ H1.out.2 (fun hHeld => ?_)
            clear hK K
            refine norm_ (a' := ?_) ?_ ?_
            rotate_left
            · show Act.put _ (some 35) _ = _
              simp only [Act.put, List.setIfInBounds_toArray, List.set_cons_zero, List.set_cons_succ, i64_w, i32_w]
              rfl
            refine one_ (i := 3) (N := some 37) #[true, true, true, true, false, false] rfl rfl (by kernel_rfl) (by decide) (fun K hK => ?_)
            refine Kd.R_lit_step k24 _ 24 ?hg (N := 37) ?hd (xs := [o]) (inner := [.int .i64 o.f0, .string o.f1, .string o.f2, .int .i64 o.f3, .int .i64 o.f4, .int .i64 o.f5, .int .i64 o.f6, .bool o.f7]) (ok := fun _ => True) (okp := fun _ => True) ?hr ?hp (fun _ hk => hk) trivial (Below.refl _ _) (Nat.le_refl _) (by simp) ?_
            case hd => rfl
            case hg => rfl
            case hr => first | (go_simp; done) | (go_simp; rfl)
            case hp => exact (Reps.c8 (show Kd.M k24 _ _ _ o [.int .i64 o.f0, .string o.f1, .string o.f2, .int .i64 o.f3, .int .i64 o.f4, .int .i64 o.f5, .int .i64 o.f6, .bool o.f7] from (k24_mkM _ _ _ o)) (Reps.none _ _))
            intro v2 w6 hR2 hb2 hg2 hat2
            have H2 := Lib.hid (And.intro (Kd.R_mono (ok' := fun k => some k ≠ v2.ownBlock) (Kd.R_elder' H1.out.1 (Kd.R_base hR2) hb2) (fun _ h => h.2)) (And.intro (Kd.R_lower hR2 H1.out.2.2.size) (And.intro (blk_below H1.out.2.1 hb2) (below_step H1.out.2.2 hb2))))
            clear hR2 hb2 hg2 hat2 H1
            refine hK.out _ _ H2.out.2.2 (fun hHeld => ?_)
            clear hK K hHeld
            refine norm_ (a' := ?_) ?_ ?_
            rotate_left
            · show Act.put _ (some 37) _ = _
              simp only [Act.put, List.setIfInBounds_toArray, List.set_cons_zero, List.set_cons_succ, i64_w, i32_w]
              rfl
            obtain ⟨A2, c2, e2⟩ := Kd.R_slice H2.out.2.1
            subst e2
            have HQ := Lib.hid (And.intro H2.out.1 (And.intro H2.out.2.1 H2.out.2.2.2))
            refine last_ (i := 4) (N := some 38) #[true, true, true, true, true, false] rfl rfl (by kernel_rfl) (by decide) (fun K hK => ?_)
            refine Kd.R_append_rows_step k24 (w0 := w) w.heap.size (by rfl) (.tmp 35) (.tmp 37) 22 24 (.agg #[(.int .i64 0), (.string ⟨#[]⟩), (.string ⟨#[]⟩), (.int .i64 0), (.int .i64 0), (.int .i64 0), (.int .i64 0), (.bool false)]) 80 rfl Try.underlying22 info24 rfl (by decide) (by omega) v1 l0 [o] _ _ _ (fun k_ => some k_ ≠ (.slice A2 [o].length c2 : Value).ownBlock) (fun _ => False) rfl rfl HQ.out.1 (Kd.R_reads' HQ.out.2.1).2.2 (fun _ _ h => h) (fun _ h => h.elim) (Kd.fresh' (Kd.R_lt HQ.out.2.1)) HQ.out.2.2 HQ.out.2.2.size (by simp only [List.length_cons, List.length_nil]; omega) ?_
            intro v3 w5 hR3 hb3 hg3 hat3
            have HN := Lib.hid (And.intro (Kd.R_mono (ok' := fun _ => True) hR3 (fun _ _ => trivial)) hb3)
            clear hR3 hb3 hg3 hat3
            refine hK.out _ _ ?_
            clear hK K
            refine norm_ (a' := ?_) ?_ ?_
            rotate_left
            · show Act.put _ (some 38) _ = _
              simp only [Act.put, List.setIfInBounds_toArray, List.set_cons_zero, List.set_cons_succ, i64_w, i32_w]
              rfl
            refine pure_ (i := 5) (N := (some 7)) (v := ?_) (a' := ?_) #[true, true, true, true, true, true] rfl rfl (by kernel_rfl) (fun _ _ _ h => h) (Or.inl ⟨by rfl, ?_⟩) ?_ ?_
            rotate_left
            · intro w'
              go_simp
              with_reducible rfl
            rotate_left
            · simp only [Act.put, List.setIfInBounds_toArray, List.set_cons_zero, List.set_cons_succ, i64_w, i32_w]
              rfl
            refine done_ (by kernel_rfl) ?_
            obtain ⟨A3, c3, e3⟩ := Kd.R_slice HN.out.1
            subst e3
            generalize hL : l0 ++ [o] = L at *
            have HLL2 := Lib.hid hL
            clear hL
            have HV2 := Lib.hid (fun (b : Bool) (hb : valid L = b) => hb ▸ valid_any A3 c3 L w5 (Kd.R_reads' HN.out.1).2.2 (Kd.R_reads' HN.out.1).2.1)
            cases hvo : valid L with
            | true =>
              have HV3 := Lib.hid (HV2.out _ hvo)
              have HRR := Lib.hid (show recO l0 o = (L, 0) from by rw [HR3.out, if_pos hvo])
              clear hvo
              go_wp2_with fail
              ((with_reducible refine HV3.out.mono ?_); skip)
              rintro e w6 ⟨rfl, hb⟩
              have HN2 := Lib.hid (And.intro (Kd.R_below HN.out.1 hb) (below_step HN.out.2 hb))
              clear hb
              go_wp2_with fail
              go_ret2
              rw [HRR.out]
              exact ⟨_, rfl, HN2.out.1, HN2.out.2⟩
            | false =>
              have HV3 := Lib.hid (HV2.out _ hvo)
              have HRR := Lib.hid (show recO l0 o = ([], 2) from by rw [HR3.out, if_neg (by rw [hvo]; simp)])
              clear hvo
              go_wp2_with fail
              ((with_reducible refine HV3.out.mono ?_); skip)
              rintro e w6 ⟨rfl, hb⟩
              have HN2 := Lib.hid (below_step HN.out.2 hb)
              clear hb
              go_wp2_with fail
              go_ret2
              rw [HRR.out]
              exact ⟨_, rfl, Kd.R_nil _ _ _ _ _, HN2.out⟩
          · refine Kd.R_lit_step k24 _ 24 ?hg (N := 37) ?hd (xs := [o]) (inner := [.int .i64 o.f0, .string o.f1, .string o.f2, .int .i64 o.f3, .int .i64 o.f4, .int .i64 o.f5, .int .i64 o.f6, .bool o.f7]) (ok := fun _ => True) (okp := fun _ => True) ?hr ?hp (fun _ hk => hk) trivial (Below.refl _ _) (Nat.le_refl _) (by simp) ?_
            case hd => rfl
            case hg => rfl
            case hr => first | (go_simp; done) | (go_simp; rfl)
            case hp => exact (Reps.c8 (show Kd.M k24 _ _ _ o [.int .i64 o.f0, .string o.f1, .string o.f2, .int .i64 o.f3, .int .i64 o.f4, .int .i64 o.f5, .int .i64 o.f6, .bool o.f7] from (k24_mkM _ _ _ o)) (Reps.none _ _))
            intro v2 w5 hR2 hb2 hg2 hat2
            have H1 := Lib.hid (And.intro hR2 (And.intro (blk_below hHeld.1 hb2) (And.intro (below_step hHeld.2 hb2) (And.intro hHeld.2.size hb2.size))))
            clear hR2 hb2 hg2 hat2
            refine hK.out _ _ ⟨H1.out.2.1, H1.out.2.2.1⟩ (fun hHeld => ?_)
            clear hK K
            refine norm_ (a' := ?_) ?_ ?_
            rotate_left
            · show Act.put _ (some 37) _ = _
              simp only [Act.put, List.setIfInBounds_toArray, List.set_cons_zero, List.set_cons_succ, i64_w, i32_w]
              rfl
            refine one_ (i := 1) (N := some 35) #[true, true, true, true, false, false] rfl rfl (by kernel_rfl) (by decide) (fun K hK => ?_)
            refine goes_ Try.func23 (by kernel_rfl) rfl #[.slice A0 l0.length c0] (by rfl) rfl rfl (by (try simp only [List.map_toArray, List.map_cons, List.map_nil]); first | done | rfl) ?_
            with_reducible refine (HCL.out _ hHeld.2).mono ?_
            rintro e w6 ⟨v1, rfl, hR, hb⟩
            have H2 := Lib.hid (And.intro (Kd.R_lower (Kd.R_mono (ok' := fun k => some k ≠ v2.ownBlock) (Kd.R_new' hR (Kd.R_lt H1.out.1)) (fun _ h => h.2)) hHeld.2.size) (And.intro (Kd.R_lower (Kd.R_below H1.out.1 hb) H1.out.2.2.2.1) (And.intro (blk_below H1.out.2.1 hb) (below_step H1.out.2.2.1 hb))))
            clear hR hb H1 hHeld
            refine ⟨_, rfl, ?_⟩
            refine hK.out _ _ H2.out.2.2 (fun hHeld => ?_)
            clear hK K hHeld
            refine norm_ (a' := ?_) ?_ ?_
            rotate_left
            · show Act.put _ (some 35) _ = _
              simp only [Act.put, List.setIfInBounds_toArray, List.set_cons_zero, List.set_cons_succ, i64_w, i32_w]
              rfl
            obtain ⟨A2, c2, e2⟩ := Kd.R_slice H2.out.2.1
            subst e2
            have HQ := Lib.hid (And.intro H2.out.1 (And.intro H2.out.2.1 H2.out.2.2.2))
            refine last_ (i := 4) (N := some 38) #[true, true, true, true, true, false] rfl rfl (by kernel_rfl) (by decide) (fun K hK => ?_)
            refine Kd.R_append_rows_step k24 (w0 := w) w.heap.size (by rfl) (.tmp 35) (.tmp 37) 22 24 (.agg #[(.int .i64 0), (.string ⟨#[]⟩), (.string ⟨#[]⟩), (.int .i64 0), (.int .i64 0), (.int .i64 0), (.int .i64 0), (.bool false)]) 80 rfl Try.underlying22 info24 rfl (by decide) (by omega) v1 l0 [o] _ _ _ (fun k_ => some k_ ≠ (.slice A2 [o].length c2 : Value).ownBlock) (fun _ => False) rfl rfl HQ.out.1 (Kd.R_reads' HQ.out.2.1).2.2 (fun _ _ h => h) (fun _ h => h.elim) (Kd.fresh' (Kd.R_lt HQ.out.2.1)) HQ.out.2.2 HQ.out.2.2.size (by simp only [List.length_cons, List.length_nil]; omega) ?_
            intro v3 w5 hR3 hb3 hg3 hat3
            have HN := Lib.hid (And.intro (Kd.R_mono (ok' := fun _ => True) hR3 (fun _ _ => trivial)) hb3)
            clear hR3 hb3 hg3 hat3
            refine hK.out _ _ ?_
            clear hK K
            refine norm_ (a' := ?_) ?_ ?_
            rotate_left
            · show Act.put _ (some 38) _ = _
              simp only [Act.put, List.setIfInBounds_toArray, List.set_cons_zero, List.set_cons_succ, i64_w, i32_w]
              rfl
            refine pure_ (i := 5) (N := (some 7)) (v := ?_) (a' := ?_) #[true, true, true, true, true, true] rfl rfl (by kernel_rfl) (fun _ _ _ h => h) (Or.inl ⟨by rfl, ?_⟩) ?_ ?_
            rotate_left
            · intro w'
              go_simp
              with_reducible rfl
            rotate_left
            · simp only [Act.put, List.setIfInBounds_toArray, List.set_cons_zero, List.set_cons_succ, i64_w, i32_w]
              rfl
            refine done_ (by kernel_rfl) ?_
            obtain ⟨A3, c3, e3⟩ := Kd.R_slice HN.out.1
            subst e3
            generalize hL : l0 ++ [o] = L at *
            have HLL2 := Lib.hid hL
            clear hL
            have HV2 := Lib.hid (fun (b : Bool) (hb : valid L = b) => hb ▸ valid_any A3 c3 L w5 (Kd.R_reads' HN.out.1).2.2 (Kd.R_reads' HN.out.1).2.1)
            cases hvo : valid L with
            | true =>
              have HV3 := Lib.hid (HV2.out _ hvo)
              have HRR := Lib.hid (show recO l0 o = (L, 0) from by rw [HR3.out, if_pos hvo])
              clear hvo
              go_wp2_with fail
              ((with_reducible refine HV3.out.mono ?_); skip)
              rintro e w6 ⟨rfl, hb⟩
              have HN2 := Lib.hid (And.intro (Kd.R_below HN.out.1 hb) (below_step HN.out.2 hb))
              clear hb
              go_wp2_with fail
              go_ret2
              rw [HRR.out]
              exact ⟨_, rfl, HN2.out.1, HN2.out.2⟩
            | false =>
              have HV3 := Lib.hid (HV2.out _ hvo)
              have HRR := Lib.hid (show recO l0 o = ([], 2) from by rw [HR3.out, if_neg (by rw [hvo]; simp)])
              clear hvo
              go_wp2_with fail
              ((with_reducible refine HV3.out.mono ?_); skip)
              rintro e w6 ⟨rfl, hb⟩
              have HN2 := Lib.hid (below_step HN.out.2 hb)
              clear hb
              go_wp2_with fail
              go_ret2
              rw [HRR.out]
              exact ⟨_, rfl, Kd.R_nil _ _ _ _ _, HN2.out⟩
      · have z0 : decide (0 < l0.length) = true := decide_eq_true (by omega)
        have hk1 : l0.length - 1 < l0.length := by omega
        obtain ⟨ad, rfl, q0, q1, q2, q3, q4, q5, q6, q7⟩ := od_cells (Kd.C_below HC.out HB2.out) hk1
        have hlast := last_le (o := o) (show 0 < l0.length by omega)
        generalize odAt l0 (l0.length - 1) = q at *
        have HLA := Lib.hid hlast
        have z1 : (0 : Int) ≤ (l0.length : Int) - 1 := by omega
        have z2 : (l0.length : Int) - 1 < (l0.length : Int) := by omega
        have z6 : (1 : Int) ≤ (l0.length : Int) := by omega
        have z3 : ((l0.length : Int) - 1).toNat = l0.length - 1 := by omega
        have z4 : IntKind.i64.wrap ((l0.length : Int) - 1) = (l0.length : Int) - 1 := IntWalk.i64_in _ (by omega)
        clear hlast q0 q1 q2 q3 q5 q6 q7 hk1 h0
        by_cases hle : q.f4 ≤ o.f4
        · have z5 : decide (o.f4 < q.f4) = false := decide_eq_false (by omega)
          have HLL := Lib.hid (show lastLe l0 o = true from by rw [HLA.out]; exact decide_eq_true hle)
          clear hle
          go_quiet (fail)
          clear z1 z2 z3 z4 z5 z6 q4
          have HCF := Lib.hid (fun (n : Nat) => contains_any (some ad) c0 l0 o w.heap.size (w2.drewN n) (Kd.C_below HC.out (pw_below_drewN HB2.out n)) (by omega) (blk_drewN HO2.out n))
          cases hsp : sameParties l0 o with
          | false =>
            have HR := Lib.hid (show recO l0 o = ([], 311) from by rw [HR1.out, if_pos HLL.out, if_neg (by rw [hsp]; simp)])
            have HSP := Lib.hid hsp
            clear hsp
            go_wp2_with fail
            refine (HCF.out _).mono ?_
            rintro e w3 ⟨rfl, hb⟩
            have HB3 := Lib.hid (below_step (pw_below_drewN HB2.out _) hb)
            rw [HSP.out]
            clear hb
            go_wp2_with fail
            go_ret2
            rw [HR.out]
            exact ⟨_, rfl, Kd.R_nil _ _ _ _ _, HB3.out⟩
          | true =>
            have HR3 := Lib.hid (show recO l0 o = (if valid (l0 ++ [o]) = true then (l0 ++ [o], 0) else ([], 2)) from by rw [HR1.out, if_pos HLL.out, if_pos hsp])
            have HSP := Lib.hid hsp
            clear hsp
            go_wp2_with fail
            refine (HCF.out _).mono ?_
            rintro e w3 ⟨rfl, hb⟩
            have H3 := Lib.hid (And.intro (blk_below (blk_drewN HO2.out _) hb) (below_step (pw_below_drewN HB2.out _) hb))
            rw [HSP.out]
            clear hb
            go_wp2_with fail
            refine start_ (n := 6) (S := fun W => W.heap[w.heap.size]? = some (.cells #[.int .i64 o.f0, .string o.f1, .string o.f2, .int .i64 o.f3, .int .i64 o.f4, .int .i64 o.f5, .int .i64 o.f6, .bool o.f7] 24 (0, 0)) ∧ Below w.heap.size w W) (ds := [4]) #[false, false, false, false, false, false] (by kernel_rfl) rfl rfl ⟨blk_drew H3.out.1, below_drew1 H3.out.2⟩ (fun hHeld => ?_)
            clear v0 v1 v2 v3 v4 v5 v6 v7
            generalize w3.drew = w4 at hHeld ⊢
            refine pure_ (i := 0) (N := (some 34)) (v := ?_) (a' := ?_) #[true, false, false, false, false, false] rfl rfl (by kernel_rfl) (fun _ _ _ h => h) (Or.inl ⟨by rfl, ?_⟩) ?_ ?_
            rotate_left
            · intro w'
              go_simp
              with_reducible rfl
            rotate_left
            · simp only [Act.put, List.setIfInBounds_toArray, List.set_cons_zero, List.set_cons_succ, i64_w, i32_w]
              rfl
            refine take_ (i := 2) (N := (some 36)) (v := ?_) (a' := ?_) #[true, false, true, false, false, false] rfl rfl (by kernel_rfl) (fun _ _ _ h => h) (Or.inl ⟨by rfl, ?_⟩) hHeld ?_ ?_
            rotate_left
            · rintro w' ⟨s, -⟩
              obtain ⟨c0, c1, c2, c3, c4, c5, c6, c7⟩ := od_blk s
              clear s
              go_simp
              with_reducible rfl
            rotate_left
            · simp only [Act.put, List.setIfInBounds_toArray, List.set_cons_zero, List.set_cons_succ, i64_w, i32_w]
              rfl
            refine two_ (i := 1) (j := 3) (Ni := some 35) (Nj := some 37) #[true, true, true, false, false, false] #[true, false, true, true, false, false] rfl rfl rfl rfl (by kernel_rfl) (by decide) (by decide) (fun K hK => ?_) (fun K hK => ?_)
            · refine goes_ Try.func23 (by kernel_rfl) rfl #[.slice (some ad) l0.length c0] (by rfl) rfl rfl (by (try simp only [List.map_toArray, List.map_cons, List.map_nil]); first | done | rfl) ?_
              with_reducible refine (HCL.out _ hHeld.2).mono ?_
              rintro e w5 ⟨v1, rfl, hR, hb⟩
              have H1 := Lib.hid (And.intro (Kd.R_lower hR hHeld.2.size) (And.intro (blk_below hHeld.1 hb) (below_step hHeld.2 hb)))
              clear hR hb
              refine ⟨_, rfl, ?_⟩
              refine hK.out _ _ H1.out.2 (fun hHeld => ?_)
              clear hK K
              refine norm_ (a' := ?_) ?_ ?_
              rotate_left
              · show Act.put _ (some 35) _ = _
                simp only [Act.put, List.setIfInBounds_toArray, List.set_cons_zero, List.set_cons_succ, i64_w, i32_w]
                rfl
              refine one_ (i := 3) (N := some 37) #[true, true, true, true, false, false] rfl rfl (by kernel_rfl) (by decide) (fun K hK => ?_)
              refine Kd.R_lit_step k24 _ 24 ?hg (N := 37) ?hd (xs := [o]) (inner := [.int .i64 o.f0, .string o.f1, .string o.f2, .int .i64 o.f3, .int .i64 o.f4, .int .i64 o.f5, .int .i64 o.f6, .bool o.f7]) (ok := fun _ => True) (okp := fun _ => True) ?hr ?hp (fun _ hk => hk) trivial (Below.refl _ _) (Nat.le_refl _) (by simp) ?_
              case hd => rfl
              case hg => rfl
              case hr => first | (go_simp; done) | (go_simp; rfl)
              case hp => exact (Reps.c8 (show Kd.M k24 _ _ _ o [.int .i64 o.f0, .string o.f1, .string o.f2, .int .i64 o.f3, .int .i64 o.f4, .int .i64 o.f5, .int .i64 o.f6, .bool o.f7] from (k24_mkM _ _ _ o)) (Reps.none _ _))
              intro v2 w6 hR2 hb2 hg2 hat2
              have H2 := Lib.hid (And.intro (Kd.R_mono (ok' := fun k => some k ≠ v2.ownBlock) (Kd.R_elder' H1.out.1 (Kd.R_base hR2) hb2) (fun _ h => h.2)) (And.intro (Kd.R_lower hR2 H1.out.2.2.size) (And.intro (blk_below H1.out.2.1 hb2) (below_step H1.out.2.2 hb2))))
              clear hR2 hb2 hg2 hat2 H1
              refine hK.out _ _ H2.out.2.2 (fun hHeld => ?_)
              clear hK K hHeld
              refine norm_ (a' := ?_) ?_ ?_
              rotate_left
              · show Act.put _ (some 37) _ = _
                simp only [Act.put, List.setIfInBounds_toArray, List.set_cons_zero, List.set_cons_succ, i64_w, i32_w]
                rfl
              obtain ⟨A2, c2, e2⟩ := Kd.R_slice H2.out.2.1
              subst e2
              have HQ := Lib.hid (And.intro H2.out.1 (And.intro H2.out.2.1 H2.out.2.2.2))
              refine last_ (i := 4) (N := some 38) #[true, true, true, true, true, false] rfl rfl (by kernel_rfl) (by decide) (fun K hK => ?_)
              refine Kd.R_append_rows_step k24 (w0 := w) w.heap.size (by rfl) (.tmp 35) (.tmp 37) 22 24 (.agg #[(.int .i64 0), (.string ⟨#[]⟩), (.string ⟨#[]⟩), (.int .i64 0), (.int .i64 0), (.int .i64 0), (.int .i64 0), (.bool false)]) 80 rfl Try.underlying22 info24 rfl (by decide) (by omega) v1 l0 [o] _ _ _ (fun k_ => some k_ ≠ (.slice A2 [o].length c2 : Value).ownBlock) (fun _ => False) rfl rfl HQ.out.1 (Kd.R_reads' HQ.out.2.1).2.2 (fun _ _ h => h) (fun _ h => h.elim) (Kd.fresh' (Kd.R_lt HQ.out.2.1)) HQ.out.2.2 HQ.out.2.2.size (by simp only [List.length_cons, List.length_nil]; omega) ?_
              intro v3 w5 hR3 hb3 hg3 hat3
              have HN := Lib.hid (And.intro (Kd.R_mono (ok' := fun _ => True) hR3 (fun _ _ => trivial)) hb3)
              clear hR3 hb3 hg3 hat3
              refine hK.out _ _ ?_
              clear hK K
              refine norm_ (a' := ?_) ?_ ?_
              rotate_left
              · show Act.put _ (some 38) _ = _
                simp only [Act.put, List.setIfInBounds_toArray, List.set_cons_zero, List.set_cons_succ, i64_w, i32_w]
                rfl
              refine pure_ (i := 5) (N := (some 7)) (v := ?_) (a' := ?_) #[true, true, true, true, true, true] rfl rfl (by kernel_rfl) (fun _ _ _ h => h) (Or.inl ⟨by rfl, ?_⟩) ?_ ?_
              rotate_left
              · intro w'
                go_simp
                with_reducible rfl
              rotate_left
              · simp only [Act.put, List.setIfInBounds_toArray, List.set_cons_zero, List.set_cons_succ, i64_w, i32_w]
                rfl
              refine done_ (by kernel_rfl) ?_
              obtain ⟨A3, c3, e3⟩ := Kd.R_slice HN.out.1
              subst e3
              generalize hL : l0 ++ [o] = L at *
              have HLL2 := Lib.hid hL
              clear hL
              have HV2 := Lib.hid (fun (b : Bool) (hb : valid L = b) => hb ▸ valid_any A3 c3 L w5 (Kd.R_reads' HN.out.1).2.2 (Kd.R_reads' HN.out.1).2.1)
              cases hvo : valid L with
              | true =>
                have HV3 := Lib.hid (HV2.out _ hvo)
                have HRR := Lib.hid (show recO l0 o = (L, 0) from by rw [HR3.out, if_pos hvo])
                clear hvo
                go_wp2_with fail
                ((with_reducible refine HV3.out.mono ?_); skip)
                rintro e w6 ⟨rfl, hb⟩
                have HN2 := Lib.hid (And.intro (Kd.R_below HN.out.1 hb) (below_step HN.out.2 hb))
                clear hb
                go_wp2_with fail
                go_ret2
                rw [HRR.out]
                exact ⟨_, rfl, HN2.out.1, HN2.out.2⟩
              | false =>
                have HV3 := Lib.hid (HV2.out _ hvo)
                have HRR := Lib.hid (show recO l0 o = ([], 2) from by rw [HR3.out, if_neg (by rw [hvo]; simp)])
                clear hvo
                go_wp2_with fail
                ((with_reducible refine HV3.out.mono ?_); skip)
                rintro e w6 ⟨rfl, hb⟩
                have HN2 := Lib.hid (below_step HN.out.2 hb)
                clear hb
                go_wp2_with fail
                go_ret2
                rw [HRR.out]
                exact ⟨_, rfl, Kd.R_nil _ _ _ _ _, HN2.out⟩
            · refine Kd.R_lit_step k24 _ 24 ?hg (N := 37) ?hd (xs := [o]) (inner := [.int .i64 o.f0, .string o.f1, .string o.f2, .int .i64 o.f3, .int .i64 o.f4, .int .i64 o.f5, .int .i64 o.f6, .bool o.f7]) (ok := fun _ => True) (okp := fun _ => True) ?hr ?hp (fun _ hk => hk) trivial (Below.refl _ _) (Nat.le_refl _) (by simp) ?_
              case hd => rfl
              case hg => rfl
              case hr => first | (go_simp; done) | (go_simp; rfl)
              case hp => exact (Reps.c8 (show Kd.M k24 _ _ _ o [.int .i64 o.f0, .string o.f1, .string o.f2, .int .i64 o.f3, .int .i64 o.f4, .int .i64 o.f5, .int .i64 o.f6, .bool o.f7] from (k24_mkM _ _ _ o)) (Reps.none _ _))
              intro v2 w5 hR2 hb2 hg2 hat2
              have H1 := Lib.hid (And.intro hR2 (And.intro (blk_below hHeld.1 hb2) (And.intro (below_step hHeld.2 hb2) (And.intro hHeld.2.size hb2.size))))
              clear hR2 hb2 hg2 hat2
              refine hK.out _ _ ⟨H1.out.2.1, H1.out.2.2.1⟩ (fun hHeld => ?_)
              clear hK K
              refine norm_ (a' := ?_) ?_ ?_
              rotate_left
              · show Act.put _ (some 37) _ = _
                simp only [Act.put, List.setIfInBounds_toArray, List.set_cons_zero, List.set_cons_succ, i64_w, i32_w]
                rfl
              refine one_ (i := 1) (N := some 35) #[true, true, true, true, false, false] rfl rfl (by kernel_rfl) (by decide) (fun K hK => ?_)
              refine goes_ Try.func23 (by kernel_rfl) rfl #[.slice (some ad) l0.length c0] (by rfl) rfl rfl (by (try simp only [List.map_toArray, List.map_cons, List.map_nil]); first | done | rfl) ?_
              with_reducible refine (HCL.out _ hHeld.2).mono ?_
              rintro e w6 ⟨v1, rfl, hR, hb⟩
              have H2 := Lib.hid (And.intro (Kd.R_lower (Kd.R_mono (ok' := fun k => some k ≠ v2.ownBlock) (Kd.R_new' hR (Kd.R_lt H1.out.1)) (fun _ h => h.2)) hHeld.2.size) (And.intro (Kd.R_lower (Kd.R_below H1.out.1 hb) H1.out.2.2.2.1) (And.intro (blk_below H1.out.2.1 hb) (below_step H1.out.2.2.1 hb))))
              clear hR hb H1 hHeld
              refine ⟨_, rfl, ?_⟩
              refine hK.out _ _ H2.out.2.2 (fun hHeld => ?_)
              clear hK K hHeld
              refine norm_ (a' := ?_) ?_ ?_
              rotate_left
              · show Act.put _ (some 35) _ = _
                simp only [Act.put, List.setIfInBounds_toArray, List.set_cons_zero, List.set_cons_succ, i64_w, i32_w]
                rfl
              obtain ⟨A2, c2, e2⟩ := Kd.R_slice H2.out.2.1
              subst e2
              have HQ := Lib.hid (And.intro H2.out.1 (And.intro H2.out.2.1 H2.out.2.2.2))
              refine last_ (i := 4) (N := some 38) #[true, true, true, true, true, false] rfl rfl (by kernel_rfl) (by decide) (fun K hK => ?_)
              refine Kd.R_append_rows_step k24 (w0 := w) w.heap.size (by rfl) (.tmp 35) (.tmp 37) 22 24 (.agg #[(.int .i64 0), (.string ⟨#[]⟩), (.string ⟨#[]⟩), (.int .i64 0), (.int .i64 0), (.int .i64 0), (.int .i64 0), (.bool false)]) 80 rfl Try.underlying22 info24 rfl (by decide) (by omega) v1 l0 [o] _ _ _ (fun k_ => some k_ ≠ (.slice A2 [o].length c2 : Value).ownBlock) (fun _ => False) rfl rfl HQ.out.1 (Kd.R_reads' HQ.out.2.1).2.2 (fun _ _ h => h) (fun _ h => h.elim) (Kd.fresh' (Kd.R_lt HQ.out.2.1)) HQ.out.2.2 HQ.out.2.2.size (by simp only [List.length_cons, List.length_nil]; omega) ?_
              intro v3 w5 hR3 hb3 hg3 hat3
              have HN := Lib.hid (And.intro (Kd.R_mono (ok' := fun _ => True) hR3 (fun _ _ => trivial)) hb3)
              clear hR3 hb3 hg3 hat3
              refine hK.out _ _ ?_
              clear hK K
              refine norm_ (a' := ?_) ?_ ?_
              rotate_left
              · show Act.put _ (some 38) _ = _
                simp only [Act.put, List.setIfInBounds_toArray, List.set_cons_zero, List.set_cons_succ, i64_w, i32_w]
                rfl
              refine pure_ (i := 5) (N := (some 7)) (v := ?_) (a' := ?_) #[true, true, true, true, true, true] rfl rfl (by kernel_rfl) (fun _ _ _ h => h) (Or.inl ⟨by rfl, ?_⟩) ?_ ?_
              rotate_left
              · intro w'
                go_simp
                with_reducible rfl
              rotate_left
              · simp only [Act.put, List.setIfInBounds_toArray, List.set_cons_zero, List.set_cons_succ, i64_w, i32_w]
                rfl
              refine done_ (by kernel_rfl) ?_
              obtain ⟨A3, c3, e3⟩ := Kd.R_slice HN.out.1
              subst e3
              generalize hL : l0 ++ [o] = L at *
              have HLL2 := Lib.hid hL
              clear hL
              have HV2 := Lib.hid (fun (b : Bool) (hb : valid L = b) => hb ▸ valid_any A3 c3 L w5 (Kd.R_reads' HN.out.1).2.2 (Kd.R_reads' HN.out.1).2.1)
              cases hvo : valid L with
              | true =>
                have HV3 := Lib.hid (HV2.out _ hvo)
                have HRR := Lib.hid (show recO l0 o = (L, 0) from by rw [HR3.out, if_pos hvo])
                clear hvo
                go_wp2_with fail
                ((with_reducible refine HV3.out.mono ?_); skip)
                rintro e w6 ⟨rfl, hb⟩
                have HN2 := Lib.hid (And.intro (Kd.R_below HN.out.1 hb) (below_step HN.out.2 hb))
                clear hb
                go_wp2_with fail
                go_ret2
                rw [HRR.out]
                exact ⟨_, rfl, HN2.out.1, HN2.out.2⟩
              | false =>
                have HV3 := Lib.hid (HV2.out _ hvo)
                have HRR := Lib.hid (show recO l0 o = ([], 2) from by rw [HR3.out, if_neg (by rw [hvo]; simp)])
                clear hvo
                go_wp2_with fail
                ((with_reducible refine HV3.out.mono ?_); skip)
                rintro e w6 ⟨rfl, hb⟩
                have HN2 := Lib.hid (below_step HN.out.2 hb)
                clear hb
                go_wp2_with fail
                go_ret2
                rw [HRR.out]
                exact ⟨_, rfl, Kd.R_nil _ _ _ _ _, HN2.out⟩
        · have z5 : decide (o.f4 < q.f4) = true := decide_eq_true (by omega)
          have HR := Lib.hid (show recO l0 o = ([], 6) from by rw [HR1.out, if_neg (by rw [HLA.out]; simpa using hle)])
          clear hle
          go_quiet (fail)
          clear z1 z2 z3 z4 z5 z6 q4
          go_wp2_with fail
          go_ret2
          rw [HR.out]
          exact ⟨_, rfl, Kd.R_nil _ _ _ _ _, pw_below_drewN HB2.out _⟩
theorem orders_Record.calls (A0 : Option Addr) (c0 : Nat) (l0 : List Od) (a1_0 : Int) (a1_1 : ByteArray) (a1_2 : ByteArray) (a1_3 : Int) (a1_4 : Int) (a1_5 : Int) (a1_6 : Int) (a1_7 : Bool) (r1 : List Od) (r2 : Int) (w : World) (hr0 : Kd.C k24 w A0 l0.length l0) (hc0 : l0.length ≤ c0) (h : orders_Record.f l0 a1_0 a1_1 a1_2 a1_3 a1_4 a1_5 a1_6 a1_7 = some (r1, r2)) :
    Calls Try.prog 12 #[.slice A0 l0.length c0, .agg #[.int .i64 a1_0, .string a1_1, .string a1_2, .int .i64 a1_3, .int .i64 a1_4, .int .i64 a1_5, .int .i64 a1_6, .bool a1_7]] w fun e w' => ∃ v0_ : Value, e = .returned (.tuple #[v0_, .int .i64 r2]) ∧ Kd.R k24 24 w' w.heap.size (fun _ => True) v0_ r1 ∧ Below w.heap.size w w' := by
  unfold orders_Record.f at h
  injection h with h
  have hh := record_any A0 c0 l0 ⟨a1_0, a1_1, a1_2, a1_3, a1_4, a1_5, a1_6, a1_7⟩ w hr0 hc0
  rw [h] at hh
  exact hh
end Go.Proofs.Ytgbcihbnaecejaa.Q

namespace Go.Proofs.Ytgbcihbnaecejaa.Q
open Go Go.RowKit Go.Maps Go.Proofs.YtgbcihbnaecejaaW.PrintWords Go.Proofs.YtgbcihbnaecejaaW.PrintLast Go.Proofs.YtgbcihbnaecejaaW.PrintMore
set_option linter.unusedVariables false
set_option linter.unusedSimpArgs false
def gOf (L : List Od) (n : Int) : Option Value := (L.find? fun x => decide (x.f0 = n)).map odV
theorem gOf_step (acc : List Od) (o : Od) : gOf (acc.filter (fun x => decide (x.f0 ≠ o.f0)) ++ [o]) = putT (gOf acc) o.f0 (odV o) := by
  funext n
  unfold gOf
  rw [List.find?_append]
  by_cases e : n = o.f0
  · subst e
    rw [putT_same]
    have : (acc.filter (fun x => decide (x.f0 ≠ o.f0))).find? (fun x => decide (x.f0 = o.f0)) = none := by
      rw [List.find?_eq_none]
      intro x hx
      have := (List.mem_filter.1 hx).2
      simpa using this
    rw [this]
    simp
  · rw [putT_ne _ _ e]
    have h1 : (acc.filter (fun x => decide (x.f0 ≠ o.f0))).find? (fun x => decide (x.f0 = n)) = acc.find? (fun x => decide (x.f0 = n)) := by
      rw [List.find?_filter]
      congr 1
      funext x
      by_cases h : x.f0 = n
      · subst h; simp [e]
      · simp [h]
    rw [h1]
    cases acc.find? (fun x => decide (x.f0 = n)) with
    | some y => rfl
    | none =>
      have : ¬ o.f0 = n := fun h => e h.symm
      simp [this]
theorem gOf_some {L : List Od} {n : Int} {v : Value} (h : gOf L n = some v) : ∃ o ∈ L, o.f0 = n ∧ v = odV o := by
  unfold gOf at h
  rw [Option.map_eq_some_iff] at h
  obtain ⟨o, h1, rfl⟩ := h
  exact ⟨o, List.mem_of_find?_eq_some h1, by simpa using List.find?_some h1, rfl⟩
theorem gOf_isSome {L : List Od} {o : Od} (h : o ∈ L) : (gOf L o.f0).isSome = true := by
  unfold gOf
  rw [Option.isSome_map, List.find?_isSome]
  exact ⟨o, h, by simp⟩
theorem distinct_eq {C : List Od} (hd : C.Pairwise (fun a b => a.f0 ≠ b.f0)) {a b : Od} (ha : a ∈ C) (hb : b ∈ C) (h : a.f0 = b.f0) : a = b := by
  induction C with
  | nil => cases ha
  | cons c C ih =>
    obtain ⟨h1, h2⟩ := List.pairwise_cons.1 hd
    rcases List.mem_cons.1 ha with e1 | ha'
    · rcases List.mem_cons.1 hb with e2 | hb'
      · rw [e1, e2]
      · rw [e1] at h; exact absurd h (h1 b hb')
    · rcases List.mem_cons.1 hb with e2 | hb'
      · rw [e2] at h; exact absurd h.symm (h1 a ha')
      · exact ih h2 ha' hb'
def Coll (C : List Od) (p : Od → Bool) (seen : List Int) (out : List Od) : Prop := ∃ sO : List Od, sO.map (fun o => o.f0) = seen ∧ (∀ o ∈ sO, o ∈ C) ∧ out = sO.filter p
theorem Coll.nil (C : List Od) (p : Od → Bool) : Coll C p [] [] := ⟨[], rfl, by simp, rfl⟩
theorem Coll.hit {C : List Od} {p : Od → Bool} {seen : List Int} {out : List Od} (h : Coll C p seen out) {o : Od} (ho : o ∈ C) (hp : p o = true) : Coll C p (seen ++ [o.f0]) (out ++ [o]) := by
  obtain ⟨sO, rfl, h2, rfl⟩ := h
  refine ⟨sO ++ [o], by simp, fun x hx => ?_, by simp [hp]⟩
  rcases List.mem_append.1 hx with hx | hx
  · exact h2 x hx
  · rw [List.mem_singleton.1 hx]; exact ho
theorem Coll.miss {C : List Od} {p : Od → Bool} {seen : List Int} {out : List Od} (h : Coll C p seen out) {o : Od} (ho : o ∈ C) (hp : p o = false) : Coll C p (seen ++ [o.f0]) out := by
  obtain ⟨sO, rfl, h2, rfl⟩ := h
  refine ⟨sO ++ [o], by simp, fun x hx => ?_, by simp [hp]⟩
  rcases List.mem_append.1 hx with hx | hx
  · exact h2 x hx
  · rw [List.mem_singleton.1 hx]; exact ho
theorem Coll.perm {C : List Od} {p : Od → Bool} {seen : List Int} {out : List Od} (h : Coll C p seen out) (hd : C.Pairwise (fun a b => a.f0 ≠ b.f0)) (hn : seen.Nodup) (hall : ∀ o ∈ C, o.f0 ∈ seen) : out.Perm (C.filter p) := by
  obtain ⟨sO, rfl, h2, rfl⟩ := h
  refine List.Perm.filter p ?_
  have n1 : sO.Nodup := (List.pairwise_map.1 hn).imp (fun h e => h (by rw [e]))
  have n2 : C.Nodup := hd.imp (fun h e => h (by rw [e]))
  refine (List.perm_ext_iff_of_nodup n1 n2).2 fun o => ⟨h2 o, fun ho => ?_⟩
  obtain ⟨o', h3, h4⟩ := List.mem_map.1 (hall o ho)
  rwa [distinct_eq hd (h2 o' h3) ho h4] at h3
theorem nodup_len : ∀ (a b : List Int), a.Nodup → (∀ x ∈ a, x ∈ b) → a.length ≤ b.length
  | [], b, _, _ => Nat.zero_le _
  | x :: a, b, hn, hs => by
    obtain ⟨h1, h2⟩ := List.nodup_cons.1 hn
    have hx := hs x (List.mem_cons_self ..)
    have h3 := nodup_len a (b.erase x) h2 (fun y hy => by
      have hne : y ≠ x := fun e => h1 (e ▸ hy)
      exact (List.mem_erase_of_ne hne).2 (hs y (List.mem_cons_of_mem _ hy)))
    rw [List.length_erase_of_mem hx] at h3
    have := List.length_pos_of_mem hx
    simp only [List.length_cons]
    omega
theorem Coll.len {C : List Od} {p : Od → Bool} {seen : List Int} {out : List Od} (h : Coll C p seen out) (hn : seen.Nodup) : out.length ≤ C.length := by
  obtain ⟨sO, rfl, h2, rfl⟩ := h
  have h3 := nodup_len (sO.map fun o => o.f0) (C.map fun o => o.f0) hn (fun x hx => by
    obtain ⟨o, ho, rfl⟩ := List.mem_map.1 hx
    exact List.mem_map.2 ⟨o, h2 o ho, rfl⟩)
  rw [List.length_map, List.length_map] at h3
  exact Nat.le_trans (List.length_filter_le _ _) h3
theorem cur_len (q : ByteArray) (known : Int) (l : List Od) : (cur q known l).length ≤ l.length := by
  induction l using snocRec with
  | nil => simp [cur]
  | snoc l o ih =>
    rw [cur_snoc]
    unfold curStep
    have := List.length_filter_le (fun x : Od => decide (x.f0 ≠ o.f0)) (cur q known l)
    split <;> simp only [List.length_append, List.length_singleton] <;> omega
def orders_Open.f (l0 : List Od) (a1 : ByteArray) (a2 : Int) (a3 : Int) : Option (List Od) := some (openO l0 a1 a2 a3)
def OInv (l : List Od) (p : ByteArray) (kn : Int) (w w1 : World) (k : Nat) (wr : World) : Prop :=
  MapT Try.prog 3 okI litI wr w1.heap.size k (gOf (cur p kn (l.take k))) ∧ Below w1.heap.size w1 wr
def OInv2 (C : List Od) (month : Int) (w w1 : World) (r n : Nat) (v : Value) (wr : World) : Prop :=
  ∃ seen cnt out, RangeT Try.prog 3 okI litI wr w1.heap.size r n (gOf C) seen cnt ∧ Coll C (isOpen month) seen out ∧ wr.ownsRow (r + 1) 24 8 v out.length (out.flatMap odEnc) ∧ Below w1.heap.size w1 wr ∧ r < wr.heap.size
theorem od_new (o : Od) {W : World} {b : Nat} (hb : W.heap.size = b) : ∀ j u, (odEnc o)[j]? = some u → (W.alloc (.cells #[.int .i64 o.f0, .string o.f1, .string o.f2, .int .i64 o.f3, .int .i64 o.f4, .int .i64 o.f5, .int .i64 o.f6, .bool o.f7] 24)).cell? ((⟨b, 0, none⟩ : Addr).add j) = some u := by
  intro j u hu
  subst hb
  rw [Addr.add_lit, Nat.zero_add, blk_cell (World.alloc_heap_new W (.cells #[.int .i64 o.f0, .string o.f1, .string o.f2, .int .i64 o.f3, .int .i64 o.f4, .int .i64 o.f5, .int .i64 o.f6, .bool o.f7] 24)) j, ← hu]
  simp [odEnc]
theorem od_one (o : Od) : ∀ u ∈ odEnc o, u.oneCell' = true := od_flat.one o
set_option maxRecDepth 100000 in
set_option maxHeartbeats 8000000 in
theorem open_valid (A0 : Option Addr) (c0 : Nat) (l0 : List Od) (p : ByteArray) (month kn : Int) (w : World) (hr0 : Kd.C k24 w A0 l0.length l0) (hc0 : l0.length ≤ c0) (hv : valid l0 = true) :
    Calls Try.prog 17 #[.slice A0 l0.length c0, .string p, .int .i64 month, .int .i64 kn] w fun e w' => ∃ v0_ : Value, e = .returned (v0_) ∧ Kd.R k24 24 w' w.heap.size (fun _ => True) v0_ (openO l0 p month kn) ∧ Below w.heap.size w w' := by
  have HC := Lib.hid hr0
  have HL := Lib.hid hc0
  have HVV := Lib.hid hv
  have hlen := ((valid_iff l0).1 hv).1
  have HG := Lib.hid ((valid_iff l0).1 hv).2
  have HVC := Lib.hid (hv ▸ valid_any A0 c0 l0 w hr0 hc0)
  have hmm := @run_makeMap Try.prog
  clear hr0 hc0 hv
  go_enter Try.func17, Try.ntmps17
  go_wp2_with (go_at_call 14; refine HVC.out.mono ?_; rintro e w1 ⟨rfl, hb⟩; have HB := Lib.hid hb; clear hb)
  go_loopw [21] (fun i wr => ∃ k : Nat, k ≤ l0.length ∧ i = .int .i64 k ∧ OInv l0 p kn w w1 k wr) (fun i _ => l0.length - (intOf i).toNat)
  case atStart => exact ⟨0, Nat.zero_le _, rfl, MapT.made _ _ _ _ _, below_alloc (Below.refl _ _) _⟩
  case round =>
    obtain ⟨k, hk, rfl, hI⟩ := hrel
    by_cases hlt : k < l0.length
    · have HI := Lib.hid hI
      obtain ⟨ad, rfl, a0, a1, a2, a3, a4, a5, a6, a7⟩ := od_cells (Kd.C_below (Kd.C_below HC.out HB.out) HI.out.2) hlt
      have hmem := odAt_mem hlt
      have HT := Lib.hid (take_odAt hlt)
      generalize ho : odAt l0 k = o at *
      have HO := Lib.hid ho
      have hff := FOk.of (HG.out.formed o hmem)
      have okn : okI o.f0 := WalkArith.wf_i64 (by have := hff.f0; omega)
      have HOK := Lib.hid okn
      have hkm : k < maxLen := by unfold maxLen; omega
      have HKM := Lib.hid hkm
      clear ho hI hmem hff okn hkm
      by_cases hp : o.f1 = p
      · have HP := Lib.hid hp
        rw [hp] at a1
        clear hp
        by_cases hkn : o.f4 ≤ kn
        · have z1 : decide (o.f4 ≤ kn) = true := decide_eq_true hkn
          go_wp2_with (first
            | (at_mapUpdate; refine wpList_storeT keyI rfl _ _ _ 33 24 rfl Try.underlying33 w1.heap.size k (gOf (cur p kn (l0.take k))) o.f0 (odV ⟨o.f0, p, o.f2, o.f3, o.f4, o.f5, o.f6, o.f7⟩) rfl rfl rfl (HI.out.1.alloc _) HKM.out HOK.out ?_; intro w2 m2 k2)
            | go_in)
          go_roundw
          case rel =>
            refine ⟨k + 1, by omega, by go_num, ?_, Below.trans HI.out.2 (Below.trans (below_alloc (Below.refl _ _) _ |>.mono HI.out.2.size) (k2.below (B := w1.heap.size) (by have := HI.out.2.size; simp; omega) (fun i h => by have h2 : i = w1.heap.size := h; omega)))⟩
            have e : cur p kn (l0.take (k + 1)) = (cur p kn (l0.take k)).filter (fun x => decide (x.f0 ≠ o.f0)) ++ [o] := by
              rw [HT.out, cur_snoc]
              exact if_pos ⟨HP.out, hkn⟩
            rw [e, gOf_step]
            have e2 : odV ⟨o.f0, p, o.f2, o.f3, o.f4, o.f5, o.f6, o.f7⟩ = odV o := by rw [← HP.out]
            rw [← e2]
            exact m2
          case measure => simp [intOf]; omega
        · have z1 : decide (o.f4 ≤ kn) = false := decide_eq_false hkn
          have HKN := Lib.hid hkn
          clear hkn
          go_wp2_with fail
          go_roundw
          case rel =>
            refine ⟨k + 1, by omega, by go_num, ?_, below_alloc HI.out.2 _⟩
            have e : cur p kn (l0.take (k + 1)) = cur p kn (l0.take k) := by
              rw [HT.out, cur_snoc]
              exact if_neg (fun h => HKN.out h.2)
            rw [e]
            exact (HI.out.1.alloc _).mono (by omega)
          case measure => simp [intOf]; omega
      · have ne : ¬ o.f1.toList = p.toList := fun h => hp (str_eq.1 h)
        have ne' : (o.f1.toList == p.toList) = false := beq_eq_false_iff_ne.2 ne
        have HP := Lib.hid hp
        clear hp
        go_wp2_with fail
        go_roundw
        case rel =>
          refine ⟨k + 1, by omega, by go_num, ?_, below_alloc HI.out.2 _⟩
          have e : cur p kn (l0.take (k + 1)) = cur p kn (l0.take k) := by
            rw [HT.out, cur_snoc]
            exact if_neg (fun h => HP.out h.1)
          rw [e]
          exact (HI.out.1.alloc _).mono (by omega)
        case measure => simp [intOf]; omega
    · obtain rfl : k = l0.length := by omega
      unfold OInv at hI
      rw [List.take_length] at hI
      have hC1 := cur_distinct p kn l0
      have hC2 := fun o (ho : o ∈ cur p kn l0) => FOk.of (HG.out.formed o (cur_mem ho).1)
      have hC3 := cur_len p kn l0
      have HF := Lib.hid (show openO l0 p month kn = sortO ((cur p kn l0).filter (isOpen month)) from by unfold openO; rw [if_pos HVV.out])
      generalize hC : cur p kn l0 = C at *
      have HD := Lib.hid (And.intro hC1 (And.intro hC2 hC3))
      have HI := Lib.hid hI
      clear hC hC1 hC2 hC3 hI
      obtain ⟨wq, hwq⟩ : ∃ wq : World, wq = wr := ⟨_, rfl⟩
      subst hwq
      go_wp2_with (first
        | (at_range; refine wpList_rangeT keyI rfl _ 33 24 rfl Try.underlying33 w1.heap.size l0.length (gOf C) rfl HI.out.1 ?_; intro w0 cnt hr0 hc0 hk0 hs0)
        | go_in)
      go_frame
      have HR0 := Lib.hid (And.intro hr0 (And.intro hk0 hs0))
      clear hr0 hk0 hs0 hc0
      go_loopw [12] (fun v wr => OInv2 C month w w1 wq.heap.size l0.length v wr) (fun _ wr => wr.rangeLeft w1.heap.size wq.heap.size)
      case atStart => exact ⟨[], cnt, [], HR0.out.1, Coll.nil _ _, World.ownsRow_nil _ _ _ _, Below.trans HI.out.2 (HR0.out.2.1.below HI.out.2.size (fun k h => h.elim)), by have := HR0.out.2.2; omega⟩
      case round =>
        obtain ⟨seen, cnt1, out, h1, h2, h3, h4, h5⟩ := hrel
        have H := Lib.hid (And.intro h1 (And.intro h2 (And.intro h3 (And.intro h4 h5))))
        clear h1 h2 h3 h4 h5
        go_wp2_with (first
          | (at_next; refine wpList_nextT keyI rfl _ rfl w1.heap.size wq.heap.size l0.length (gOf C) seen cnt1 rfl H.out.1 ?_ ?_)
          | go_in)
        · intro hall
          have HA := Lib.hid hall
          clear hall
          have hnd := H.out.1.nodup.1
          have hP := H.out.2.1.perm HD.out.1 hnd (fun o ho => HA.out o.f0 (WalkArith.wf_i64 (by have := (HD.out.2.1 o ho).f0; omega)) (gOf_isSome ho))
          have hdC := HD.out.1.filter (isOpen month)
          have hdO : out.Pairwise (fun a b => a.f0 ≠ b.f0) := hP.symm.pairwise hdC (fun {a b} h e => h e.symm)
          have hlO := Nat.le_trans (H.out.2.1.len hnd) HD.out.2.2
          have HEQ := Lib.hid (show sortO out = openO l0 p month kn from by rw [HF.out]; exact sortO_of_perm hdC ((sortO_perm out).trans hP) (sortO_sorted hdO))
          have hwl : w.heap.size ≤ wq.heap.size + 1 := by have := HB.out.size; have := HI.out.2.size; omega
          have HS := Lib.hid (And.intro (own_weaken H.out.2.2.1 hwl) (And.intro hdO hlO))
          have HBW := Lib.hid (Below.trans HB.out (H.out.2.2.2.1.mono HB.out.size))
          clear hnd hP hdC hdO hlO hwl
          go_wp2_with fail
          refine (od_sort_c HS.out.1 HS.out.2.1 (by have := HS.out.2.2; omega)).mono ?_
          rintro e w3 ⟨rfl, hR, hg⟩
          rw [HEQ.out] at hR
          have HR := Lib.hid (And.intro hR (Below.grown HBW.out hg HBW.out.size (fun k hk => (HS.out.1.lt k hk).1)))
          clear hR hg
          go_wp2_with fail
          go_ret
          exact ⟨_, rfl, HR.out.1, HR.out.2⟩
        · intro x v w2 cnt2 hx hns hgx hr2 hlt hk2 hs2 hen
          obtain ⟨o, hoC, hox, hv⟩ := gOf_some hgx
          subst hox
          subst hv
          have ho := HD.out.2.1 o hoC
          have HN := Lib.hid (And.intro hr2 (And.intro hlt hk2))
          have HOC := Lib.hid hoC
          have HH := Lib.hid (own_KB H.out.2.2.1 hk2 (fun k h => by have h2 : k = wq.heap.size := h; omega))
          have HBW := Lib.hid (show Below w1.heap.size w1 w2 from Below.trans H.out.2.2.2.1 (hk2.below H.out.2.2.2.1.size (fun k h => by have h2 : k = wq.heap.size := h; have := HI.out.2.size; omega)))
          have hrs : wq.heap.size < wr.heap.size := H.out.2.2.2.2
          have HLN := Lib.hid (H.out.2.1.len H.out.1.nodup.1)
          clear hr2 hlt hk2 hoC hx hns hgx
          by_cases c5 : o.f5 ≤ month
          · have z5 : decide (o.f5 ≤ month) = true := decide_eq_true c5
            by_cases c6 : 0 < o.f6
            · have z6 : decide (0 < o.f6) = true := decide_eq_true c6
              have HP := Lib.hid (show isOpen month o = true from decide_eq_true ⟨c5, c6⟩)
              obtain ⟨i0, hi, hz0, hz1, hz2⟩ := info_parts info24
              have HII := Lib.hid (And.intro hi (And.intro hz0 (And.intro hz1 hz2)))
              have HS2 := Lib.hid hs2
              clear c5 c6 ho hi hz0 hz1 hz2
              go_wp2_with (first
                | (at_builtin; refine wpList_append_own _ rfl _ _ 22 rfl (wq.heap.size + 1) 24 i0 _ 8 80 Try.underlying22 HII.out.1 HII.out.2.1 HII.out.2.2.1 HII.out.2.2.2 rfl (by decide) _ out.length (out.flatMap odEnc) rfl ((HH.out.alloc _).alloc _) ⟨wr.heap.size + 1, 0, none⟩ 1 1 (odEnc o) rfl rfl (od_new o (by simp [HS2.out])) (od_one o) (by have := HLN.out; have := HD.out.2.2; unfold maxLen; omega) (by have := HLN.out; have := HD.out.2.2; omega) (by simp [HS2.out]; omega) ?_; intro v' w3 hown' hgrow _; have HW3 := Lib.hid (And.intro hown' (KB.of_append (Mine := NoB) (L := wq.heap.size + 1) (HH.out.alloc _) (Nat.le_refl _) hgrow)); clear hown' hgrow)
                | go_in)
              have hkb := KB.trans' (S := fun k => wq.heap.size + 1 ≤ k) ((KB.refl _ w2).alloc (.cells #[.int .i64 o.f0, .string o.f1, .string o.f2, .int .i64 o.f3, .int .i64 o.f4, .int .i64 o.f5, .int .i64 o.f6, .bool o.f7] 24)) HW3.out.2 (fun i h _ => by rcases h with h | h; exact h.elim; exact h.1)
              have hq : w1.heap.size < wq.heap.size := HI.out.1.lt
              have hr3 := HN.out.1.kb hkb (by show ¬ wq.heap.size + 1 ≤ w1.heap.size; omega) (by show ¬ wq.heap.size + 1 ≤ wq.heap.size; omega)
              have hown3 := HW3.out.1
              have efl : out.flatMap odEnc ++ odEnc o = (out ++ [o]).flatMap odEnc := by simp
              have elen : out.length + 1 = (out ++ [o]).length := by simp
              rw [efl, elen] at hown3
              have HR3 := Lib.hid (And.intro hr3 (And.intro hown3 (And.intro (Below.trans HBW.out (hkb.below (B := w1.heap.size) HBW.out.size (fun k h => by have h2 : wq.heap.size + 1 ≤ k := h; omega))) (show wq.heap.size < w3.heap.size from by have := hkb.size; have := HS2.out; omega))))
              clear hkb hq hr3 hown3 efl elen
              go_roundw
              case rel => exact ⟨_, _, out ++ [o], HR3.out.1, H.out.2.1.hit HOC.out HP.out, HR3.out.2.1, HR3.out.2.2.1, HR3.out.2.2.2⟩
              case measure => rw [HR3.out.1.left_eq, H.out.1.left_eq]; exact HN.out.2.1
            · have z6 : decide (0 < o.f6) = false := decide_eq_false c6
              have HP := Lib.hid (show isOpen month o = false from decide_eq_false (fun h => c6 h.2))
              clear c5 c6 ho
              go_wp2_with fail
              have hr3 := HN.out.1.kb (S := NoB) ((KB.refl _ _).alloc (.cells #[.int .i64 o.f0, .string o.f1, .string o.f2, .int .i64 o.f3, .int .i64 o.f4, .int .i64 o.f5, .int .i64 o.f6, .bool o.f7] 24)) (fun h => h) (fun h => h)
              have HR3 := Lib.hid hr3
              clear hr3
              go_roundw
              case rel => exact ⟨_, _, out, HR3.out, H.out.2.1.miss HOC.out HP.out, HH.out.alloc _, below_alloc HBW.out _, by simp [hs2]; omega⟩
              case measure => rw [HR3.out.left_eq, H.out.1.left_eq]; exact HN.out.2.1
          · have z5 : decide (o.f5 ≤ month) = false := decide_eq_false c5
            have HP := Lib.hid (show isOpen month o = false from decide_eq_false (fun h => c5 h.1))
            clear c5 ho
            go_wp2_with fail
            have hr3 := HN.out.1.kb (S := NoB) ((KB.refl _ _).alloc (.cells #[.int .i64 o.f0, .string o.f1, .string o.f2, .int .i64 o.f3, .int .i64 o.f4, .int .i64 o.f5, .int .i64 o.f6, .bool o.f7] 24)) (fun h => h) (fun h => h)
            have HR3 := Lib.hid hr3
            clear hr3
            go_roundw
            case rel => exact ⟨_, _, out, HR3.out, H.out.2.1.miss HOC.out HP.out, HH.out.alloc _, below_alloc HBW.out _, by simp [hs2]; omega⟩
            case measure => rw [HR3.out.left_eq, H.out.1.left_eq]; exact HN.out.2.1
set_option maxRecDepth 100000 in
set_option maxHeartbeats 8000000 in
theorem open_bad (A0 : Option Addr) (c0 : Nat) (l0 : List Od) (p : ByteArray) (month kn : Int) (w : World) (hr0 : Kd.C k24 w A0 l0.length l0) (hc0 : l0.length ≤ c0) (hv : valid l0 = false) :
    Calls Try.prog 17 #[.slice A0 l0.length c0, .string p, .int .i64 month, .int .i64 kn] w fun e w' => ∃ v0_ : Value, e = .returned (v0_) ∧ Kd.R k24 24 w' w.heap.size (fun _ => True) v0_ (openO l0 p month kn) ∧ Below w.heap.size w w' := by
  have HVC := Lib.hid (hv ▸ valid_any A0 c0 l0 w hr0 hc0)
  have HF := Lib.hid (show openO l0 p month kn = [] from by unfold openO; rw [if_neg (by rw [hv]; simp)])
  clear hr0 hc0 hv
  go_enter Try.func17, Try.ntmps17
  go_wp2_with (go_at_call 14; refine HVC.out.mono ?_; rintro e w1 ⟨rfl, hb⟩; have HB := Lib.hid hb; clear hb)
  go_ret
  exact ⟨_, rfl, by rw [HF.out]; exact Kd.R_nil _ _ _ _ _, HB.out⟩
theorem orders_Open.calls (A0 : Option Addr) (c0 : Nat) (l0 : List Od) (a1 : ByteArray) (a2 : Int) (a3 : Int) (r : List Od) (w : World) (hr0 : Kd.C k24 w A0 l0.length l0) (hc0 : l0.length ≤ c0) (h : orders_Open.f l0 a1 a2 a3 = some r) :
    Calls Try.prog 17 #[.slice A0 l0.length c0, .string a1, .int .i64 a2, .int .i64 a3] w fun e w' => ∃ v0_ : Value, e = .returned (v0_) ∧ Kd.R k24 24 w' w.heap.size (fun _ => True) v0_ r ∧ Below w.heap.size w w' := by
  injection h with h
  subst h
  cases hv : valid l0 with
  | true => exact open_valid A0 c0 l0 a1 a2 a3 w hr0 hc0 hv
  | false => exact open_bad A0 c0 l0 a1 a2 a3 w hr0 hc0 hv
end Go.Proofs.Ytgbcihbnaecejaa.Q

namespace Go.Proofs.Ytgbcihbnaecejaa.Q
open Go Go.RowKit Go.Proofs.YtgbcihbnaecejaaW.PrintWords Go.Proofs.YtgbcihbnaecejaaW.PrintLast Go.Proofs.YtgbcihbnaecejaaW.PrintMore
set_option linter.unusedVariables false
set_option linter.unusedSimpArgs false
def Keep (P : World → Prop) (W : World) : Prop := P W ∧ ∀ W1 W2, P W1 → Below W1.heap.size W1 W2 → P W2
theorem Keep.step {P : World → Prop} {W W' : World} (h : Keep P W) (hb : Below W.heap.size W W') : Keep P W' := ⟨h.2 _ _ h.1 hb, h.2⟩
theorem Keep.and {P Q : World → Prop} {W : World} (h : Keep P W) (k : Keep Q W) : Keep (fun w => P w ∧ Q w) W := ⟨⟨h.1, k.1⟩, fun W1 W2 a b => ⟨h.2 _ _ a.1 b, k.2 _ _ a.2 b⟩⟩
theorem Keep.C {α : Type} {d : Kd α} {W : World} {A : Option Addr} {n : Nat} {l : List α} (h : Kd.C d W A n l) : Keep (fun w => Kd.C d w A n l) W := ⟨h, fun W1 W2 a b => Kd.C_below a b⟩
theorem Keep.below {w W : World} (h : Below w.heap.size w W) : Keep (fun W => Below w.heap.size w W) W := ⟨h, fun W1 W2 a b => below_step a b⟩
theorem Keep.cell {W : World} {a : Addr} {v : Value} (h : W.cell? a = some v) : Keep (fun w => w.cell? a = some v) W := ⟨h, fun W1 W2 a b => pw_cell_below b a⟩
theorem Keep.blk {W : World} {b : Nat} {o : Obj} (h : W.heap[b]? = some o) : Keep (fun w => w.heap[b]? = some o) W := ⟨h, fun W1 W2 a b => blk_below a b⟩
theorem Keep.alloc {P : World → Prop} {W : World} (h : Keep P W) (o : Obj) : Keep P (W.alloc o) := h.step (below_alloc (Below.refl _ _) o)
theorem Keep.drewN {P : World → Prop} {W : World} (h : Keep P W) (n : Nat) : Keep P (W.drewN n) := h.step (pw_below_drewN (Below.refl _ _) n)
abbrev oth : Od := ⟨7, (⟨#[97, 110, 110, 97]⟩ : ByteArray), (⟨#[115, 104, 111, 112]⟩ : ByteArray), 2, 30, 0, 0, false⟩
theorem addr_zero (a : Addr) : a.add 0 = a := by simp [Addr.add]
abbrev hOd (n r k c : Int) : Od := ⟨n, (⟨#[97, 110, 110, 97]⟩ : ByteArray), (⟨#[98, 97, 110, 107]⟩ : ByteArray), r, k, 0, c, false⟩
theorem order_c (a0 a1 a2 a3 : Int) (w : World) : Calls Try.prog 19 #[.int .i64 a0, .int .i64 a1, .int .i64 a2, .int .i64 a3] w fun e w' => e = .returned (.agg #[.int .i64 a0, .string (⟨#[97, 110, 110, 97]⟩ : ByteArray), .string (⟨#[98, 97, 110, 107]⟩ : ByteArray), .int .i64 a1, .int .i64 a2, .int .i64 0, .int .i64 a3, .bool false]) ∧ Below w.heap.size w w' :=
  wageofficelaw31_order.calls a0 a1 a2 a3 _ _ _ _ _ _ _ _ w rfl
set_option maxRecDepth 100000 in
theorem hx1 : (recO [hOd 7 2 10 500, hOd 3 1 20 900] (hOd 7 2 30 0)).2 = 0 := by decide +kernel
set_option maxRecDepth 100000 in
theorem hx2 : (recO [hOd 7 2 10 500, hOd 3 1 20 900, hOd 7 2 30 0] (hOd 7 2 29 0)).2 = 6 := by decide +kernel
set_option maxRecDepth 100000 in
theorem hx3 : (recO [hOd 7 2 10 500, hOd 3 1 20 900, hOd 7 2 30 0] ⟨7, (⟨#[97, 110, 110, 97]⟩ : ByteArray), (⟨#[115, 104, 111, 112]⟩ : ByteArray), 2, 30, 0, 0, false⟩).2 = 311 := by decide +kernel
set_option maxRecDepth 100000 in
theorem hx4 : (recO [hOd 7 2 10 500, hOd 3 1 20 900, hOd 7 2 30 0] (hOd 0 1 30 1)).2 = 1 := by decide +kernel
set_option maxRecDepth 100000 in
theorem hx5 : (openO [hOd 7 2 10 500, hOd 3 1 20 900, hOd 7 2 30 0] (⟨#[97, 110, 110, 97]⟩ : ByteArray) 0 9).length = 0 := by decide +kernel
set_option maxRecDepth 100000 in
theorem hx6 : (openO [hOd 7 2 10 500, hOd 3 1 20 900, hOd 7 2 30 0] (⟨#[97, 110, 110, 97]⟩ : ByteArray) 0 25).length = 2 ∧ (odAt (openO [hOd 7 2 10 500, hOd 3 1 20 900, hOd 7 2 30 0] (⟨#[97, 110, 110, 97]⟩ : ByteArray) 0 25) 0).f0 = 3 ∧ (odAt (openO [hOd 7 2 10 500, hOd 3 1 20 900, hOd 7 2 30 0] (⟨#[97, 110, 110, 97]⟩ : ByteArray) 0 25) 1).f6 = 500 := by decide +kernel
set_option maxRecDepth 100000 in
theorem hx7 : (openO [hOd 7 2 10 500, hOd 3 1 20 900, hOd 7 2 30 0] (⟨#[97, 110, 110, 97]⟩ : ByteArray) 0 30).length = 1 := by decide +kernel
set_option maxRecDepth 100000 in
theorem hx8 : valid [hOd 7 2 10 500, hOd 3 1 20 900, hOd 7 2 30 0] = true ∧ valid [⟨7, (⟨#[97, 110, 110, 97]⟩ : ByteArray), (⟨#[115, 104, 111, 112]⟩ : ByteArray), 2, 30, 0, 0, false⟩, hOd 7 2 10 500] = false := by decide +kernel
theorem hx9 : (recO [hOd 7 2 10 500, hOd 3 1 20 900] (hOd 7 2 30 0)).1 = [hOd 7 2 10 500, hOd 3 1 20 900, hOd 7 2 30 0] := by
  have h := hx1
  unfold recO at h ⊢
  by_cases h1 : valid [hOd 7 2 10 500, hOd 3 1 20 900] = true ∧ formedOk (hOd 7 2 30 0) = true
  · rw [if_pos h1] at h ⊢
    by_cases h2 : lastLe [hOd 7 2 10 500, hOd 3 1 20 900] (hOd 7 2 30 0) = true
    · rw [if_pos h2] at h ⊢
      by_cases h3 : sameParties [hOd 7 2 10 500, hOd 3 1 20 900] (hOd 7 2 30 0) = true
      · rw [if_pos h3] at h ⊢
        by_cases h4 : valid ([hOd 7 2 10 500, hOd 3 1 20 900] ++ [hOd 7 2 30 0]) = true
        · rw [if_pos h4]
          rfl
        · rw [if_neg h4] at h; simp at h
      · rw [if_neg h3] at h; simp at h
    · rw [if_neg h2] at h; simp at h
  · rw [if_neg h1] at h; simp at h
theorem record_c (A : Option Addr) (n c : Nat) (L : List Od) (o : Od) (m : Int) (w : World) (hr : Kd.C k24 w A L.length L) (hn : L.length = n) (hc : n ≤ c) (h2 : (recO L o).2 = m) :
    Calls Try.prog 12 #[.slice A n c, .agg #[.int .i64 o.f0, .string o.f1, .string o.f2, .int .i64 o.f3, .int .i64 o.f4, .int .i64 o.f5, .int .i64 o.f6, .bool o.f7]] w fun e w' => ∃ v : Value, e = .returned (.tuple #[v, .int .i64 m]) ∧ Kd.R k24 24 w' w.heap.size (fun _ => True) v (recO L o).1 ∧ Below w.heap.size w w' := by
  subst h2
  subst hn
  exact record_any A c L o w hr hc
theorem valid_n (A : Option Addr) (n c : Nat) (L : List Od) (b : Bool) (w : World) (hr : Kd.C k24 w A L.length L) (hn : L.length = n) (hc : n ≤ c) (hb : valid L = b) :
    Calls Try.prog 14 #[.slice A n c] w fun e w' => e = .returned (.bool b) ∧ Below w.heap.size w w' := by
  subst hn
  subst hb
  exact valid_any A c L w hr hc
theorem C_two {W : World} {b : Nat} {o p : Od} (h : W.heap[b]? = some (.cells #[.int .i64 o.f0, .string o.f1, .string o.f2, .int .i64 o.f3, .int .i64 o.f4, .int .i64 o.f5, .int .i64 o.f6, .bool o.f7, .int .i64 p.f0, .string p.f1, .string p.f2, .int .i64 p.f3, .int .i64 p.f4, .int .i64 p.f5, .int .i64 p.f6, .bool p.f7] 24 (0, 0))) : Kd.C k24 W (some ⟨b, 0, none⟩) [o, p].length [o, p] := by
  refine ⟨rfl, by simp, fun _ => ⟨_, rfl, fun j q hq => ?_⟩⟩
  match j, hq with
  | 0, hq =>
    simp at hq
    subst hq
    refine ⟨_, rfl, k24_mk W o, fun i u hu => ?_⟩
    have hi : i < 8 := (List.getElem?_eq_some_iff.1 hu).1
    obtain rfl | rfl | rfl | rfl | rfl | rfl | rfl | rfl : i = 0 ∨ i = 1 ∨ i = 2 ∨ i = 3 ∨ i = 4 ∨ i = 5 ∨ i = 6 ∨ i = 7 := by omega
    · exact (blk_cell h 0).trans hu
    · exact (blk_cell h 1).trans hu
    · exact (blk_cell h 2).trans hu
    · exact (blk_cell h 3).trans hu
    · exact (blk_cell h 4).trans hu
    · exact (blk_cell h 5).trans hu
    · exact (blk_cell h 6).trans hu
    · exact (blk_cell h 7).trans hu
  | 1, hq =>
    simp at hq
    subst hq
    refine ⟨_, rfl, k24_mk W p, fun i u hu => ?_⟩
    have hi : i < 8 := (List.getElem?_eq_some_iff.1 hu).1
    obtain rfl | rfl | rfl | rfl | rfl | rfl | rfl | rfl : i = 0 ∨ i = 1 ∨ i = 2 ∨ i = 3 ∨ i = 4 ∨ i = 5 ∨ i = 6 ∨ i = 7 := by omega
    · exact (blk_cell h 8).trans hu
    · exact (blk_cell h 9).trans hu
    · exact (blk_cell h 10).trans hu
    · exact (blk_cell h 11).trans hu
    · exact (blk_cell h 12).trans hu
    · exact (blk_cell h 13).trans hu
    · exact (blk_cell h 14).trans hu
    · exact (blk_cell h 15).trans hu
  | j + 2, hq => simp at hq
def wageofficelaw31_head.f : Option Bool := some true
set_option maxRecDepth 100000 in
set_option maxHeartbeats 4000000 in
theorem head_any (w : World) : Calls Try.prog 10 #[] w fun e w' => e = .returned (.bool true) ∧ Below w.heap.size w w' := by
  have HP := Lib.hid (Keep.below (Below.refl w.heap.size w))
  obtain ⟨L2, hL2⟩ : ∃ L2, L2 = [hOd 7 2 10 500, hOd 3 1 20 900] := ⟨_, rfl⟩
  have HL2 := Lib.hid hL2
  clear hL2
  go_enter Try.func10, Try.ntmps10
  go_wp2_with fail
  refine (order_c _ _ _ _ _).mono ?_
  rintro e w1 ⟨rfl, hb⟩
  have HP1 := Lib.hid (HP.out.step hb)
  clear hb HP
  go_wp2_with fail
  refine (order_c _ _ _ _ _).mono ?_
  rintro e w2 ⟨rfl, hb⟩
  have HP2 := Lib.hid (HP1.out.step hb)
  clear hb HP1
  go_wp2_with fail
  refine (order_c _ _ _ _ _).mono ?_
  rintro e w3 ⟨rfl, hb⟩
  have HP3 := Lib.hid (((HP2.out.alloc _).and (Keep.C (C_two (o := hOd 7 2 10 500) (p := hOd 3 1 20 900) (World.alloc_heap_new w2 _)))).step hb)
  clear hb HP2
  go_wp2_with fail
  refine (record_c _ 2 2 [hOd 7 2 10 500, hOd 3 1 20 900] (hOd 7 2 30 0) _ _ HP3.out.1.2 rfl (by omega) hx1).mono ?_
  rintro e w4 ⟨v, rfl, hR, hb⟩
  rw [hx9] at hR
  obtain ⟨L3, hL3⟩ : ∃ L3, L3 = [hOd 7 2 10 500, hOd 3 1 20 900, hOd 7 2 30 0] := ⟨_, rfl⟩
  rw [← hL3] at hR
  have y2 := hx2
  have y3 := hx3
  have y4 := hx4
  have y5 := hx5
  have y6 := hx6
  have y7 := hx7
  have y8 := hx8
  have ylen : L3.length = 3 := by rw [hL3]; rfl
  have yat : odAt L3 0 = hOd 7 2 10 500 := by rw [hL3]; rfl
  rw [← hL3] at y2 y3 y4 y5 y6 y7 y8
  obtain ⟨A, c, e1⟩ := Kd.R_slice hR
  subst e1
  have HY := Lib.hid (And.intro y2 (And.intro y3 (And.intro y4 (And.intro y5 (And.intro y6 (And.intro y7 (And.intro y8 (And.intro ylen yat))))))))
  have HLC := Lib.hid (Kd.R_reads' hR).2.1
  have HP4 := Lib.hid ((HP3.out.step hb).and (Keep.C (Kd.R_reads' hR).2.2))
  clear hb hR hL3 y2 y3 y4 y5 y6 y7 y8 ylen yat HP3
  generalize hOa : openO L3 (⟨#[97, 110, 110, 97]⟩ : ByteArray) 0 9 = La at *
  generalize hOb : openO L3 (⟨#[97, 110, 110, 97]⟩ : ByteArray) 0 25 = Lb at *
  generalize hOc : openO L3 (⟨#[97, 110, 110, 97]⟩ : ByteArray) 0 30 = Lc at *
  have HOa := Lib.hid hOa
  have HOb := Lib.hid hOb
  have HOc := Lib.hid hOc
  clear hOa hOb hOc
  go_wp2_with fail
  refine (orders_Open.calls A c L3 (⟨#[97, 110, 110, 97]⟩ : ByteArray) 0 9 La _ HP4.out.1.2 HLC.out (congrArg some HOa.out)).mono ?_
  rintro e w5 ⟨va, rfl, hR, hb⟩
  obtain ⟨Aa, ca, e1⟩ := Kd.R_slice hR
  subst e1
  have HP5 := Lib.hid ((HP4.out.step hb).and (Keep.C (Kd.R_reads' hR).2.2))
  clear hb hR HP4
  go_wp2_with fail
  refine (orders_Open.calls A c L3 (⟨#[97, 110, 110, 97]⟩ : ByteArray) 0 25 Lb _ HP5.out.1.1.2 HLC.out (congrArg some HOb.out)).mono ?_
  rintro e w6 ⟨vb, rfl, hR, hb⟩
  obtain ⟨Ab, cb, e1⟩ := Kd.R_slice hR
  subst e1
  have HP6 := Lib.hid ((HP5.out.step hb).and (Keep.C (Kd.R_reads' hR).2.2))
  clear hb hR HP5
  go_wp2_with fail
  refine (orders_Open.calls A c L3 (⟨#[97, 110, 110, 97]⟩ : ByteArray) 0 30 Lc _ HP6.out.1.1.1.2 HLC.out (congrArg some HOc.out)).mono ?_
  rintro e w7 ⟨vc, rfl, hR, hb⟩
  obtain ⟨Ac, cc, e1⟩ := Kd.R_slice hR
  subst e1
  have HP7 := Lib.hid (HP6.out.step hb)
  clear hb hR HP6
  go_wp2_with fail
  refine (order_c _ _ _ _ _).mono ?_
  rintro e w8 ⟨rfl, hb⟩
  have HP8 := Lib.hid (HP7.out.step hb)
  clear hb HP7
  go_wp2_with fail
  refine (record_c A L3.length c L3 (hOd 7 2 29 0) 6 _ HP8.out.1.1.1.2 rfl HLC.out HY.out.1).mono ?_
  rintro e w9 ⟨vd, rfl, hR, hb⟩
  have HP9 := Lib.hid (HP8.out.step hb)
  clear hb hR HP8
  go_wp2_with fail
  refine (order_c _ _ _ _ _).mono ?_
  rintro e w10 ⟨rfl, hb⟩
  have HP10 := Lib.hid (HP9.out.step hb)
  clear hb HP9
  go_wp2_with fail
  refine (record_c A L3.length c L3 oth 311 _ (HP10.out.alloc _).1.1.1.2 rfl HLC.out HY.out.2.1).mono ?_
  rintro e w11 ⟨ve, rfl, hR, hb⟩
  have HP11 := Lib.hid (((HP10.out.alloc _).and (Keep.blk (World.alloc_heap_new w10 (.cells #[.int .i64 7, .string (⟨#[97, 110, 110, 97]⟩ : ByteArray), .string (⟨#[115, 104, 111, 112]⟩ : ByteArray), .int .i64 2, .int .i64 30, .int .i64 0, .int .i64 0, .bool false] 24)))).step hb)
  clear hb hR HP10
  go_wp2_with fail
  refine (order_c _ _ _ _ _).mono ?_
  rintro e w12 ⟨rfl, hb⟩
  have HP12 := Lib.hid (HP11.out.step hb)
  clear hb HP11
  go_wp2_with fail
  refine (record_c A L3.length c L3 (hOd 0 1 30 1) 1 _ HP12.out.1.1.1.1.2 rfl HLC.out HY.out.2.2.1).mono ?_
  rintro e w13 ⟨vf, rfl, hR, hb⟩
  have HP13 := Lib.hid (HP12.out.step hb)
  clear hb hR HP12
  have HCL := Lib.hid HP13.out.1.1.1.1.2
  obtain ⟨adl, rfl, l0, l1, l2, l3, l4, l5, l6, l7⟩ := od_cells HCL.out (i := 0) (by rw [HY.out.2.2.2.2.2.2.2.1]; omega)
  obtain ⟨adb, rfl, lb0, -⟩ := od_cells HP13.out.1.1.2 (i := 0) (by rw [HY.out.2.2.2.2.1.1]; omega)
  obtain ⟨adb', eab, -, -, -, -, -, -, lb1, -⟩ := od_cells HP13.out.1.1.2 (i := 1) (by rw [HY.out.2.2.2.2.1.1]; omega)
  cases eab
  rw [HY.out.2.2.2.2.2.2.2.2] at l0 l1 l2 l3 l4 l5 l6 l7
  rw [HY.out.2.2.2.2.1.2.1] at lb0
  rw [HY.out.2.2.2.2.1.2.2] at lb1
  obtain ⟨ot0, ot1, ot2, ot3, ot4, ot5, ot6, ot7⟩ := od_blk (o := oth) HP13.out.1.2
  simp only [Nat.zero_mul, Nat.one_mul, addr_zero] at l0 l1 l2 l3 l4 l5 l6 l7 lb0 lb1
  have lb1 : w13.cell? ⟨adb.block, adb.off + 8 + 6, none⟩ = some (.int .i64 500) := by simpa [Addr.add] using lb1
  have b1 : ((L3.length : Int) == 3) = true := by rw [HY.out.2.2.2.2.2.2.2.1]; rfl
  have b2 : ((La.length : Int) == 0) = true := by rw [HY.out.2.2.2.1]; rfl
  have b3 : ((Lb.length : Int) == 2) = true := by rw [HY.out.2.2.2.2.1.1]; rfl
  have b4 : ((Lc.length : Int) == 1) = true := by rw [HY.out.2.2.2.2.2.1]; rfl
  have b5 : (0 : Int) < (Lb.length : Int) := by rw [HY.out.2.2.2.2.1.1]; decide
  have b6 : (1 : Int) < (Lb.length : Int) := by rw [HY.out.2.2.2.2.1.1]; decide
  have b8 : 0 < Lb.length := by rw [HY.out.2.2.2.2.1.1]; decide
  have b9 : 1 < Lb.length := by rw [HY.out.2.2.2.2.1.1]; decide
  have b10 : 0 < L3.length := by rw [HY.out.2.2.2.2.2.2.2.1]; decide
  have b7 : (0 : Int) < (L3.length : Int) := by rw [HY.out.2.2.2.2.2.2.2.1]; decide
  simp only [hOd, oth] at l0 l1 l2 l3 l4 l5 l6 l7 ot0 ot1 ot2 ot3 ot4 ot5 ot6 ot7
  go_wp2_with fail
  refine start_ (n := 62) (S := fun W => Below w13.heap.size w13 W) (ds := []) #[false, false, false, false, false, false, false, false, false, false, false, false, false, false, false, false, false, false, false, false, false, false, false, false, false, false, false, false, false, false, false, false, false, false, false, false, false, false, false, false, false, false, false, false, false, false, false, false, false, false, false, false, false, false, false, false, false, false, false, false, false, false] (by kernel_rfl) rfl rfl (below_drew1 (Below.refl _ _)) (fun hHeld => ?_)
  refine pure_ (i := 0) (N := (some 47)) (v := ?_) (a' := ?_) #[true, false, false, false, false, false, false, false, false, false, false, false, false, false, false, false, false, false, false, false, false, false, false, false, false, false, false, false, false, false, false, false, false, false, false, false, false, false, false, false, false, false, false, false, false, false, false, false, false, false, false, false, false, false, false, false, false, false, false, false, false, false] rfl rfl (by kernel_rfl) (fun _ _ _ h => h) (Or.inl ⟨by rfl, ?_⟩) ?_ ?_
  rotate_left
  · intro w'
    go_simp
    with_reducible rfl
  rotate_left
  · simp only [Act.put, List.setIfInBounds_toArray, List.set_cons_zero, List.set_cons_succ, i64_w, i32_w]
    rfl
  refine pure_ (i := 1) (N := (some 48)) (v := ?_) (a' := ?_) #[true, true, false, false, false, false, false, false, false, false, false, false, false, false, false, false, false, false, false, false, false, false, false, false, false, false, false, false, false, false, false, false, false, false, false, false, false, false, false, false, false, false, false, false, false, false, false, false, false, false, false, false, false, false, false, false, false, false, false, false, false, false] rfl rfl (by kernel_rfl) (fun _ _ _ h => h) (Or.inl ⟨by rfl, ?_⟩) ?_ ?_
  rotate_left
  · intro w'
    go_simp
    with_reducible rfl
  rotate_left
  · simp only [Act.put, List.setIfInBounds_toArray, List.set_cons_zero, List.set_cons_succ, i64_w, i32_w]
    rfl
  refine pure_ (i := 2) (N := (some 49)) (v := ?_) (a' := ?_) #[true, true, true, false, false, false, false, false, false, false, false, false, false, false, false, false, false, false, false, false, false, false, false, false, false, false, false, false, false, false, false, false, false, false, false, false, false, false, false, false, false, false, false, false, false, false, false, false, false, false, false, false, false, false, false, false, false, false, false, false, false, false] rfl rfl (by kernel_rfl) (fun _ _ _ h => h) (Or.inl ⟨by rfl, ?_⟩) ?_ ?_
  rotate_left
  · intro w'
    go_simp
    with_reducible rfl
  rotate_left
  · simp only [Act.put, List.setIfInBounds_toArray, List.set_cons_zero, List.set_cons_succ, i64_w, i32_w]
    rfl
  refine pure_ (i := 3) (N := (some 50)) (v := ?_) (a' := ?_) #[true, true, true, true, false, false, false, false, false, false, false, false, false, false, false, false, false, false, false, false, false, false, false, false, false, false, false, false, false, false, false, false, false, false, false, false, false, false, false, false, false, false, false, false, false, false, false, false, false, false, false, false, false, false, false, false, false, false, false, false, false, false] rfl rfl (by kernel_rfl) (fun _ _ _ h => h) (Or.inl ⟨by rfl, ?_⟩) ?_ ?_
  rotate_left
  · intro w'
    go_simp
    with_reducible rfl
  rotate_left
  · simp only [Act.put, List.setIfInBounds_toArray, List.set_cons_zero, List.set_cons_succ, i64_w, i32_w]
    rfl
  refine pure_ (i := 4) (N := (some 51)) (v := ?_) (a' := ?_) #[true, true, true, true, true, false, false, false, false, false, false, false, false, false, false, false, false, false, false, false, false, false, false, false, false, false, false, false, false, false, false, false, false, false, false, false, false, false, false, false, false, false, false, false, false, false, false, false, false, false, false, false, false, false, false, false, false, false, false, false, false, false] rfl rfl (by kernel_rfl) (fun _ _ _ h => h) (Or.inl ⟨by rfl, ?_⟩) ?_ ?_
  rotate_left
  · intro w'
    go_simp
    with_reducible rfl
  rotate_left
  · simp only [Act.put, List.setIfInBounds_toArray, List.set_cons_zero, List.set_cons_succ, i64_w, i32_w]
    rfl
  refine pure_ (i := 5) (N := (some 52)) (v := ?_) (a' := ?_) #[true, true, true, true, true, true, false, false, false, false, false, false, false, false, false, false, false, false, false, false, false, false, false, false, false, false, false, false, false, false, false, false, false, false, false, false, false, false, false, false, false, false, false, false, false, false, false, false, false, false, false, false, false, false, false, false, false, false, false, false, false, false] rfl rfl (by kernel_rfl) (fun _ _ _ h => h) (Or.inl ⟨by rfl, ?_⟩) ?_ ?_
  rotate_left
  · intro w'
    go_simp
    with_reducible rfl
  rotate_left
  · simp only [Act.put, List.setIfInBounds_toArray, List.set_cons_zero, List.set_cons_succ, i64_w, i32_w]
    rfl
  refine pure_ (i := 6) (N := (some 53)) (v := ?_) (a' := ?_) #[true, true, true, true, true, true, true, false, false, false, false, false, false, false, false, false, false, false, false, false, false, false, false, false, false, false, false, false, false, false, false, false, false, false, false, false, false, false, false, false, false, false, false, false, false, false, false, false, false, false, false, false, false, false, false, false, false, false, false, false, false, false] rfl rfl (by kernel_rfl) (fun _ _ _ h => h) (Or.inl ⟨by rfl, ?_⟩) ?_ ?_
  rotate_left
  · intro w'
    go_simp
    with_reducible rfl
  rotate_left
  · simp only [Act.put, List.setIfInBounds_toArray, List.set_cons_zero, List.set_cons_succ, i64_w, i32_w]
    rfl
  refine pure_ (i := 7) (N := (some 54)) (v := ?_) (a' := ?_) #[true, true, true, true, true, true, true, true, false, false, false, false, false, false, false, false, false, false, false, false, false, false, false, false, false, false, false, false, false, false, false, false, false, false, false, false, false, false, false, false, false, false, false, false, false, false, false, false, false, false, false, false, false, false, false, false, false, false, false, false, false, false] rfl rfl (by kernel_rfl) (fun _ _ _ h => h) (Or.inl ⟨by rfl, ?_⟩) ?_ ?_
  rotate_left
  · intro w'
    go_simp
    with_reducible rfl
  rotate_left
  · simp only [Act.put, List.setIfInBounds_toArray, List.set_cons_zero, List.set_cons_succ, i64_w, i32_w]
    rfl
  refine pure_ (i := 8) (N := (some 55)) (v := ?_) (a' := ?_) #[true, true, true, true, true, true, true, true, true, false, false, false, false, false, false, false, false, false, false, false, false, false, false, false, false, false, false, false, false, false, false, false, false, false, false, false, false, false, false, false, false, false, false, false, false, false, false, false, false, false, false, false, false, false, false, false, false, false, false, false, false, false] rfl rfl (by kernel_rfl) (fun _ _ _ h => h) (Or.inl ⟨by rfl, ?_⟩) ?_ ?_
  rotate_left
  · intro w'
    go_simp
    with_reducible rfl
  rotate_left
  · simp only [Act.put, List.setIfInBounds_toArray, List.set_cons_zero, List.set_cons_succ, i64_w, i32_w]
    rfl
  refine pure_ (i := 9) (N := (some 56)) (v := ?_) (a' := ?_) #[true, true, true, true, true, true, true, true, true, true, false, false, false, false, false, false, false, false, false, false, false, false, false, false, false, false, false, false, false, false, false, false, false, false, false, false, false, false, false, false, false, false, false, false, false, false, false, false, false, false, false, false, false, false, false, false, false, false, false, false, false, false] rfl rfl (by kernel_rfl) (fun _ _ _ h => h) (Or.inl ⟨by rfl, ?_⟩) ?_ ?_
  rotate_left
  · intro w'
    go_simp
    with_reducible rfl
  rotate_left
  · simp only [Act.put, List.setIfInBounds_toArray, List.set_cons_zero, List.set_cons_succ, i64_w, i32_w]
    rfl
  refine pure_ (i := 10) (N := (some 57)) (v := ?_) (a' := ?_) #[true, true, true, true, true, true, true, true, true, true, true, false, false, false, false, false, false, false, false, false, false, false, false, false, false, false, false, false, false, false, false, false, false, false, false, false, false, false, false, false, false, false, false, false, false, false, false, false, false, false, false, false, false, false, false, false, false, false, false, false, false, false] rfl rfl (by kernel_rfl) (fun _ _ _ h => h) (Or.inl ⟨by rfl, ?_⟩) ?_ ?_
  rotate_left
  · intro w'
    go_simp
    with_reducible rfl
  rotate_left
  · simp only [Act.put, List.setIfInBounds_toArray, List.set_cons_zero, List.set_cons_succ, i64_w, i32_w]
    rfl
  refine pure_ (i := 11) (N := (some 58)) (v := ?_) (a' := ?_) #[true, true, true, true, true, true, true, true, true, true, true, true, false, false, false, false, false, false, false, false, false, false, false, false, false, false, false, false, false, false, false, false, false, false, false, false, false, false, false, false, false, false, false, false, false, false, false, false, false, false, false, false, false, false, false, false, false, false, false, false, false, false] rfl rfl (by kernel_rfl) (fun _ _ _ h => h) (Or.inl ⟨by rfl, ?_⟩) ?_ ?_
  rotate_left
  · intro w'
    go_simp
    with_reducible rfl
  rotate_left
  · simp only [Act.put, List.setIfInBounds_toArray, List.set_cons_zero, List.set_cons_succ, i64_w, i32_w]
    rfl
  refine pure_ (i := 12) (N := (some 59)) (v := ?_) (a' := ?_) #[true, true, true, true, true, true, true, true, true, true, true, true, true, false, false, false, false, false, false, false, false, false, false, false, false, false, false, false, false, false, false, false, false, false, false, false, false, false, false, false, false, false, false, false, false, false, false, false, false, false, false, false, false, false, false, false, false, false, false, false, false, false] rfl rfl (by kernel_rfl) (fun _ _ _ h => h) (Or.inl ⟨by rfl, ?_⟩) ?_ ?_
  rotate_left
  · intro w'
    go_simp
    with_reducible rfl
  rotate_left
  · simp only [Act.put, List.setIfInBounds_toArray, List.set_cons_zero, List.set_cons_succ, i64_w, i32_w]
    rfl
  refine pure_ (i := 13) (N := (some 60)) (v := ?_) (a' := ?_) #[true, true, true, true, true, true, true, true, true, true, true, true, true, true, false, false, false, false, false, false, false, false, false, false, false, false, false, false, false, false, false, false, false, false, false, false, false, false, false, false, false, false, false, false, false, false, false, false, false, false, false, false, false, false, false, false, false, false, false, false, false, false] rfl rfl (by kernel_rfl) (fun _ _ _ h => h) (Or.inl ⟨by rfl, ?_⟩) ?_ ?_
  rotate_left
  · intro w'
    go_simp
    with_reducible rfl
  rotate_left
  · simp only [Act.put, List.setIfInBounds_toArray, List.set_cons_zero, List.set_cons_succ, i64_w, i32_w]
    rfl
  refine pure_ (i := 14) (N := (some 61)) (v := ?_) (a' := ?_) #[true, true, true, true, true, true, true, true, true, true, true, true, true, true, true, false, false, false, false, false, false, false, false, false, false, false, false, false, false, false, false, false, false, false, false, false, false, false, false, false, false, false, false, false, false, false, false, false, false, false, false, false, false, false, false, false, false, false, false, false, false, false] rfl rfl (by kernel_rfl) (fun _ _ _ h => h) (Or.inl ⟨by rfl, ?_⟩) ?_ ?_
  rotate_left
  · intro w'
    go_simp
    with_reducible rfl
  rotate_left
  · simp only [Act.put, List.setIfInBounds_toArray, List.set_cons_zero, List.set_cons_succ, i64_w, i32_w]
    rfl
  refine pure_ (i := 15) (N := (some 62)) (v := ?_) (a' := ?_) #[true, true, true, true, true, true, true, true, true, true, true, true, true, true, true, true, false, false, false, false, false, false, false, false, false, false, false, false, false, false, false, false, false, false, false, false, false, false, false, false, false, false, false, false, false, false, false, false, false, false, false, false, false, false, false, false, false, false, false, false, false, false] rfl rfl (by kernel_rfl) (fun _ _ _ h => h) (Or.inl ⟨by rfl, ?_⟩) ?_ ?_
  rotate_left
  · intro w'
    go_simp
    with_reducible rfl
  rotate_left
  · simp only [Act.put, List.setIfInBounds_toArray, List.set_cons_zero, List.set_cons_succ, i64_w, i32_w]
    rfl
  refine pure_ (i := 16) (N := (some 63)) (v := ?_) (a' := ?_) #[true, true, true, true, true, true, true, true, true, true, true, true, true, true, true, true, true, false, false, false, false, false, false, false, false, false, false, false, false, false, false, false, false, false, false, false, false, false, false, false, false, false, false, false, false, false, false, false, false, false, false, false, false, false, false, false, false, false, false, false, false, false] rfl rfl (by kernel_rfl) (fun _ _ _ h => h) (Or.inl ⟨by rfl, ?_⟩) ?_ ?_
  rotate_left
  · intro w'
    go_simp
    with_reducible rfl
  rotate_left
  · simp only [Act.put, List.setIfInBounds_toArray, List.set_cons_zero, List.set_cons_succ, i64_w, i32_w]
    rfl
  refine pure_ (i := 17) (N := (some 64)) (v := ?_) (a' := ?_) #[true, true, true, true, true, true, true, true, true, true, true, true, true, true, true, true, true, true, false, false, false, false, false, false, false, false, false, false, false, false, false, false, false, false, false, false, false, false, false, false, false, false, false, false, false, false, false, false, false, false, false, false, false, false, false, false, false, false, false, false, false, false] rfl rfl (by kernel_rfl) (fun _ _ _ h => h) (Or.inl ⟨by rfl, ?_⟩) ?_ ?_
  rotate_left
  · intro w'
    go_simp
    with_reducible rfl
  rotate_left
  · simp only [Act.put, List.setIfInBounds_toArray, List.set_cons_zero, List.set_cons_succ, i64_w, i32_w]
    rfl
  refine pure_ (i := 18) (N := (some 65)) (v := ?_) (a' := ?_) #[true, true, true, true, true, true, true, true, true, true, true, true, true, true, true, true, true, true, true, false, false, false, false, false, false, false, false, false, false, false, false, false, false, false, false, false, false, false, false, false, false, false, false, false, false, false, false, false, false, false, false, false, false, false, false, false, false, false, false, false, false, false] rfl rfl (by kernel_rfl) (fun _ _ _ h => h) (Or.inl ⟨by rfl, ?_⟩) ?_ ?_
  rotate_left
  · intro w'
    go_simp
    with_reducible rfl
  rotate_left
  · simp only [Act.put, List.setIfInBounds_toArray, List.set_cons_zero, List.set_cons_succ, i64_w, i32_w]
    rfl
  refine pure_ (i := 19) (N := (some 66)) (v := ?_) (a' := ?_) #[true, true, true, true, true, true, true, true, true, true, true, true, true, true, true, true, true, true, true, true, false, false, false, false, false, false, false, false, false, false, false, false, false, false, false, false, false, false, false, false, false, false, false, false, false, false, false, false, false, false, false, false, false, false, false, false, false, false, false, false, false, false] rfl rfl (by kernel_rfl) (fun _ _ _ h => h) (Or.inl ⟨by rfl, ?_⟩) ?_ ?_
  rotate_left
  · intro w'
    go_simp
    with_reducible rfl
  rotate_left
  · simp only [Act.put, List.setIfInBounds_toArray, List.set_cons_zero, List.set_cons_succ, i64_w, i32_w]
    rfl
  refine pure_ (i := 20) (N := (some 67)) (v := ?_) (a' := ?_) #[true, true, true, true, true, true, true, true, true, true, true, true, true, true, true, true, true, true, true, true, true, false, false, false, false, false, false, false, false, false, false, false, false, false, false, false, false, false, false, false, false, false, false, false, false, false, false, false, false, false, false, false, false, false, false, false, false, false, false, false, false, false] rfl rfl (by kernel_rfl) (fun _ _ _ h => h) (Or.inl ⟨by rfl, ?_⟩) ?_ ?_
  rotate_left
  · intro w'
    go_simp
    with_reducible rfl
  rotate_left
  · simp only [Act.put, List.setIfInBounds_toArray, List.set_cons_zero, List.set_cons_succ, i64_w, i32_w]
    rfl
  refine take_ (i := 21) (N := (some 68)) (v := ?_) (a' := ?_) #[true, true, true, true, true, true, true, true, true, true, true, true, true, true, true, true, true, true, true, true, true, true, false, false, false, false, false, false, false, false, false, false, false, false, false, false, false, false, false, false, false, false, false, false, false, false, false, false, false, false, false, false, false, false, false, false, false, false, false, false, false, false] rfl rfl (by kernel_rfl) (fun _ _ _ h => h) (Or.inl ⟨by rfl, ?_⟩) hHeld ?_ ?_
  rotate_left
  · rintro w' sb
    have c0 := pw_cell_below sb lb0
    have c1 := pw_cell_below sb lb1
    have d0 := pw_cell_below sb ot0
    have d1 := pw_cell_below sb ot1
    have d2 := pw_cell_below sb ot2
    have d3 := pw_cell_below sb ot3
    have d4 := pw_cell_below sb ot4
    have d5 := pw_cell_below sb ot5
    have d6 := pw_cell_below sb ot6
    have d7 := pw_cell_below sb ot7
    have e0 := pw_cell_below sb l0
    have e1 := pw_cell_below sb l1
    have e2 := pw_cell_below sb l2
    have e3 := pw_cell_below sb l3
    have e4 := pw_cell_below sb l4
    have e5 := pw_cell_below sb l5
    have e6 := pw_cell_below sb l6
    have e7 := pw_cell_below sb l7
    clear sb
    go_simp
    with_reducible rfl
  rotate_left
  · simp only [Act.put, List.setIfInBounds_toArray, List.set_cons_zero, List.set_cons_succ, i64_w, i32_w]
    rfl
  refine pure_ (i := 22) (N := (some 69)) (v := ?_) (a' := ?_) #[true, true, true, true, true, true, true, true, true, true, true, true, true, true, true, true, true, true, true, true, true, true, true, false, false, false, false, false, false, false, false, false, false, false, false, false, false, false, false, false, false, false, false, false, false, false, false, false, false, false, false, false, false, false, false, false, false, false, false, false, false, false] rfl rfl (by kernel_rfl) (fun _ _ _ h => h) (Or.inl ⟨by rfl, ?_⟩) ?_ ?_
  rotate_left
  · intro w'
    go_simp
    with_reducible rfl
  rotate_left
  · simp only [Act.put, List.setIfInBounds_toArray, List.set_cons_zero, List.set_cons_succ, i64_w, i32_w]
    rfl
  refine pure_ (i := 23) (N := (some 70)) (v := ?_) (a' := ?_) #[true, true, true, true, true, true, true, true, true, true, true, true, true, true, true, true, true, true, true, true, true, true, true, true, false, false, false, false, false, false, false, false, false, false, false, false, false, false, false, false, false, false, false, false, false, false, false, false, false, false, false, false, false, false, false, false, false, false, false, false, false, false] rfl rfl (by kernel_rfl) (fun _ _ _ h => h) (Or.inl ⟨by rfl, ?_⟩) ?_ ?_
  rotate_left
  · intro w'
    go_simp
    with_reducible rfl
  rotate_left
  · simp only [Act.put, List.setIfInBounds_toArray, List.set_cons_zero, List.set_cons_succ, i64_w, i32_w]
    rfl
  refine pure_ (i := 24) (N := (some 71)) (v := ?_) (a' := ?_) #[true, true, true, true, true, true, true, true, true, true, true, true, true, true, true, true, true, true, true, true, true, true, true, true, true, false, false, false, false, false, false, false, false, false, false, false, false, false, false, false, false, false, false, false, false, false, false, false, false, false, false, false, false, false, false, false, false, false, false, false, false, false] rfl rfl (by kernel_rfl) (fun _ _ _ h => h) (Or.inl ⟨by rfl, ?_⟩) ?_ ?_
  rotate_left
  · intro w'
    go_simp
    with_reducible rfl
  rotate_left
  · simp only [Act.put, List.setIfInBounds_toArray, List.set_cons_zero, List.set_cons_succ, i64_w, i32_w]
    rfl
  refine pure_ (i := 25) (N := (some 72)) (v := ?_) (a' := ?_) #[true, true, true, true, true, true, true, true, true, true, true, true, true, true, true, true, true, true, true, true, true, true, true, true, true, true, false, false, false, false, false, false, false, false, false, false, false, false, false, false, false, false, false, false, false, false, false, false, false, false, false, false, false, false, false, false, false, false, false, false, false, false] rfl rfl (by kernel_rfl) (fun _ _ _ h => h) (Or.inl ⟨by rfl, ?_⟩) ?_ ?_
  rotate_left
  · intro w'
    go_simp
    with_reducible rfl
  rotate_left
  · simp only [Act.put, List.setIfInBounds_toArray, List.set_cons_zero, List.set_cons_succ, i64_w, i32_w]
    rfl
  refine pure_ (i := 26) (N := (some 73)) (v := ?_) (a' := ?_) #[true, true, true, true, true, true, true, true, true, true, true, true, true, true, true, true, true, true, true, true, true, true, true, true, true, true, true, false, false, false, false, false, false, false, false, false, false, false, false, false, false, false, false, false, false, false, false, false, false, false, false, false, false, false, false, false, false, false, false, false, false, false] rfl rfl (by kernel_rfl) (fun _ _ _ h => h) (Or.inl ⟨by rfl, ?_⟩) ?_ ?_
  rotate_left
  · intro w'
    go_simp
    with_reducible rfl
  rotate_left
  · simp only [Act.put, List.setIfInBounds_toArray, List.set_cons_zero, List.set_cons_succ, i64_w, i32_w]
    rfl
  refine pure_ (i := 27) (N := (some 74)) (v := ?_) (a' := ?_) #[true, true, true, true, true, true, true, true, true, true, true, true, true, true, true, true, true, true, true, true, true, true, true, true, true, true, true, true, false, false, false, false, false, false, false, false, false, false, false, false, false, false, false, false, false, false, false, false, false, false, false, false, false, false, false, false, false, false, false, false, false, false] rfl rfl (by kernel_rfl) (fun _ _ _ h => h) (Or.inl ⟨by rfl, ?_⟩) ?_ ?_
  rotate_left
  · intro w'
    go_simp
    with_reducible rfl
  rotate_left
  · simp only [Act.put, List.setIfInBounds_toArray, List.set_cons_zero, List.set_cons_succ, i64_w, i32_w]
    rfl
  refine take_ (i := 28) (N := (some 75)) (v := ?_) (a' := ?_) #[true, true, true, true, true, true, true, true, true, true, true, true, true, true, true, true, true, true, true, true, true, true, true, true, true, true, true, true, true, false, false, false, false, false, false, false, false, false, false, false, false, false, false, false, false, false, false, false, false, false, false, false, false, false, false, false, false, false, false, false, false, false] rfl rfl (by kernel_rfl) (fun _ _ _ h => h) (Or.inl ⟨by rfl, ?_⟩) hHeld ?_ ?_
  rotate_left
  · rintro w' sb
    have c0 := pw_cell_below sb lb0
    have c1 := pw_cell_below sb lb1
    have d0 := pw_cell_below sb ot0
    have d1 := pw_cell_below sb ot1
    have d2 := pw_cell_below sb ot2
    have d3 := pw_cell_below sb ot3
    have d4 := pw_cell_below sb ot4
    have d5 := pw_cell_below sb ot5
    have d6 := pw_cell_below sb ot6
    have d7 := pw_cell_below sb ot7
    have e0 := pw_cell_below sb l0
    have e1 := pw_cell_below sb l1
    have e2 := pw_cell_below sb l2
    have e3 := pw_cell_below sb l3
    have e4 := pw_cell_below sb l4
    have e5 := pw_cell_below sb l5
    have e6 := pw_cell_below sb l6
    have e7 := pw_cell_below sb l7
    clear sb
    go_simp
    with_reducible rfl
  rotate_left
  · simp only [Act.put, List.setIfInBounds_toArray, List.set_cons_zero, List.set_cons_succ, i64_w, i32_w]
    rfl
  refine pure_ (i := 29) (N := (some 76)) (v := ?_) (a' := ?_) #[true, true, true, true, true, true, true, true, true, true, true, true, true, true, true, true, true, true, true, true, true, true, true, true, true, true, true, true, true, true, false, false, false, false, false, false, false, false, false, false, false, false, false, false, false, false, false, false, false, false, false, false, false, false, false, false, false, false, false, false, false, false] rfl rfl (by kernel_rfl) (fun _ _ _ h => h) (Or.inl ⟨by rfl, ?_⟩) ?_ ?_
  rotate_left
  · intro w'
    go_simp
    with_reducible rfl
  rotate_left
  · simp only [Act.put, List.setIfInBounds_toArray, List.set_cons_zero, List.set_cons_succ, i64_w, i32_w]
    rfl
  refine pure_ (i := 30) (N := (some 77)) (v := ?_) (a' := ?_) #[true, true, true, true, true, true, true, true, true, true, true, true, true, true, true, true, true, true, true, true, true, true, true, true, true, true, true, true, true, true, true, false, false, false, false, false, false, false, false, false, false, false, false, false, false, false, false, false, false, false, false, false, false, false, false, false, false, false, false, false, false, false] rfl rfl (by kernel_rfl) (fun _ _ _ h => h) (Or.inl ⟨by rfl, ?_⟩) ?_ ?_
  rotate_left
  · intro w'
    go_simp
    with_reducible rfl
  rotate_left
  · simp only [Act.put, List.setIfInBounds_toArray, List.set_cons_zero, List.set_cons_succ, i64_w, i32_w]
    rfl
  refine pure_ (i := 31) (N := (some 78)) (v := ?_) (a' := ?_) #[true, true, true, true, true, true, true, true, true, true, true, true, true, true, true, true, true, true, true, true, true, true, true, true, true, true, true, true, true, true, true, true, false, false, false, false, false, false, false, false, false, false, false, false, false, false, false, false, false, false, false, false, false, false, false, false, false, false, false, false, false, false] rfl rfl (by kernel_rfl) (fun _ _ _ h => h) (Or.inl ⟨by rfl, ?_⟩) ?_ ?_
  rotate_left
  · intro w'
    go_simp
    with_reducible rfl
  rotate_left
  · simp only [Act.put, List.setIfInBounds_toArray, List.set_cons_zero, List.set_cons_succ, i64_w, i32_w]
    rfl
  refine pure_ (i := 32) (N := (some 79)) (v := ?_) (a' := ?_) #[true, true, true, true, true, true, true, true, true, true, true, true, true, true, true, true, true, true, true, true, true, true, true, true, true, true, true, true, true, true, true, true, true, false, false, false, false, false, false, false, false, false, false, false, false, false, false, false, false, false, false, false, false, false, false, false, false, false, false, false, false, false] rfl rfl (by kernel_rfl) (fun _ _ _ h => h) (Or.inl ⟨by rfl, ?_⟩) ?_ ?_
  rotate_left
  · intro w'
    go_simp
    with_reducible rfl
  rotate_left
  · simp only [Act.put, List.setIfInBounds_toArray, List.set_cons_zero, List.set_cons_succ, i64_w, i32_w]
    rfl
  refine pure_ (i := 33) (N := (some 80)) (v := ?_) (a' := ?_) #[true, true, true, true, true, true, true, true, true, true, true, true, true, true, true, true, true, true, true, true, true, true, true, true, true, true, true, true, true, true, true, true, true, true, false, false, false, false, false, false, false, false, false, false, false, false, false, false, false, false, false, false, false, false, false, false, false, false, false, false, false, false] rfl rfl (by kernel_rfl) (fun _ _ _ h => h) (Or.inl ⟨by rfl, ?_⟩) ?_ ?_
  rotate_left
  · intro w'
    go_simp
    with_reducible rfl
  rotate_left
  · simp only [Act.put, List.setIfInBounds_toArray, List.set_cons_zero, List.set_cons_succ, i64_w, i32_w]
    rfl
  refine pure_ (i := 34) (N := (some 81)) (v := ?_) (a' := ?_) #[true, true, true, true, true, true, true, true, true, true, true, true, true, true, true, true, true, true, true, true, true, true, true, true, true, true, true, true, true, true, true, true, true, true, true, false, false, false, false, false, false, false, false, false, false, false, false, false, false, false, false, false, false, false, false, false, false, false, false, false, false, false] rfl rfl (by kernel_rfl) (fun _ _ _ h => h) (Or.inl ⟨by rfl, ?_⟩) ?_ ?_
  rotate_left
  · intro w'
    go_simp
    with_reducible rfl
  rotate_left
  · simp only [Act.put, List.setIfInBounds_toArray, List.set_cons_zero, List.set_cons_succ, i64_w, i32_w]
    rfl
  refine pure_ (i := 35) (N := (some 82)) (v := ?_) (a' := ?_) #[true, true, true, true, true, true, true, true, true, true, true, true, true, true, true, true, true, true, true, true, true, true, true, true, true, true, true, true, true, true, true, true, true, true, true, true, false, false, false, false, false, false, false, false, false, false, false, false, false, false, false, false, false, false, false, false, false, false, false, false, false, false] rfl rfl (by kernel_rfl) (fun _ _ _ h => h) (Or.inl ⟨by rfl, ?_⟩) ?_ ?_
  rotate_left
  · intro w'
    go_simp
    with_reducible rfl
  rotate_left
  · simp only [Act.put, List.setIfInBounds_toArray, List.set_cons_zero, List.set_cons_succ, i64_w, i32_w]
    rfl
  refine pure_ (i := 36) (N := (some 83)) (v := ?_) (a' := ?_) #[true, true, true, true, true, true, true, true, true, true, true, true, true, true, true, true, true, true, true, true, true, true, true, true, true, true, true, true, true, true, true, true, true, true, true, true, true, false, false, false, false, false, false, false, false, false, false, false, false, false, false, false, false, false, false, false, false, false, false, false, false, false] rfl rfl (by kernel_rfl) (fun _ _ _ h => h) (Or.inl ⟨by rfl, ?_⟩) ?_ ?_
  rotate_left
  · intro w'
    go_simp
    with_reducible rfl
  rotate_left
  · simp only [Act.put, List.setIfInBounds_toArray, List.set_cons_zero, List.set_cons_succ, i64_w, i32_w]
    rfl
  refine pure_ (i := 37) (N := (some 84)) (v := ?_) (a' := ?_) #[true, true, true, true, true, true, true, true, true, true, true, true, true, true, true, true, true, true, true, true, true, true, true, true, true, true, true, true, true, true, true, true, true, true, true, true, true, true, false, false, false, false, false, false, false, false, false, false, false, false, false, false, false, false, false, false, false, false, false, false, false, false] rfl rfl (by kernel_rfl) (fun _ _ _ h => h) (Or.inl ⟨by rfl, ?_⟩) ?_ ?_
  rotate_left
  · intro w'
    go_simp
    with_reducible rfl
  rotate_left
  · simp only [Act.put, List.setIfInBounds_toArray, List.set_cons_zero, List.set_cons_succ, i64_w, i32_w]
    rfl
  refine pure_ (i := 38) (N := (some 85)) (v := ?_) (a' := ?_) #[true, true, true, true, true, true, true, true, true, true, true, true, true, true, true, true, true, true, true, true, true, true, true, true, true, true, true, true, true, true, true, true, true, true, true, true, true, true, true, false, false, false, false, false, false, false, false, false, false, false, false, false, false, false, false, false, false, false, false, false, false, false] rfl rfl (by kernel_rfl) (fun _ _ _ h => h) (Or.inl ⟨by rfl, ?_⟩) ?_ ?_
  rotate_left
  · intro w'
    go_simp
    with_reducible rfl
  rotate_left
  · simp only [Act.put, List.setIfInBounds_toArray, List.set_cons_zero, List.set_cons_succ, i64_w, i32_w]
    rfl
  refine pure_ (i := 39) (N := (some 86)) (v := ?_) (a' := ?_) #[true, true, true, true, true, true, true, true, true, true, true, true, true, true, true, true, true, true, true, true, true, true, true, true, true, true, true, true, true, true, true, true, true, true, true, true, true, true, true, true, false, false, false, false, false, false, false, false, false, false, false, false, false, false, false, false, false, false, false, false, false, false] rfl rfl (by kernel_rfl) (fun _ _ _ h => h) (Or.inl ⟨by rfl, ?_⟩) ?_ ?_
  rotate_left
  · intro w'
    go_simp
    with_reducible rfl
  rotate_left
  · simp only [Act.put, List.setIfInBounds_toArray, List.set_cons_zero, List.set_cons_succ, i64_w, i32_w]
    rfl
  refine pure_ (i := 40) (N := (some 87)) (v := ?_) (a' := ?_) #[true, true, true, true, true, true, true, true, true, true, true, true, true, true, true, true, true, true, true, true, true, true, true, true, true, true, true, true, true, true, true, true, true, true, true, true, true, true, true, true, true, false, false, false, false, false, false, false, false, false, false, false, false, false, false, false, false, false, false, false, false, false] rfl rfl (by kernel_rfl) (fun _ _ _ h => h) (Or.inl ⟨by rfl, ?_⟩) ?_ ?_
  rotate_left
  · intro w'
    go_simp
    with_reducible rfl
  rotate_left
  · simp only [Act.put, List.setIfInBounds_toArray, List.set_cons_zero, List.set_cons_succ, i64_w, i32_w]
    rfl
  refine pure_ (i := 41) (N := (some 88)) (v := ?_) (a' := ?_) #[true, true, true, true, true, true, true, true, true, true, true, true, true, true, true, true, true, true, true, true, true, true, true, true, true, true, true, true, true, true, true, true, true, true, true, true, true, true, true, true, true, true, false, false, false, false, false, false, false, false, false, false, false, false, false, false, false, false, false, false, false, false] rfl rfl (by kernel_rfl) (fun _ _ _ h => h) (Or.inl ⟨by rfl, ?_⟩) ?_ ?_
  rotate_left
  · intro w'
    go_simp
    with_reducible rfl
  rotate_left
  · simp only [Act.put, List.setIfInBounds_toArray, List.set_cons_zero, List.set_cons_succ, i64_w, i32_w]
    rfl
  refine pure_ (i := 42) (N := (some 89)) (v := ?_) (a' := ?_) #[true, true, true, true, true, true, true, true, true, true, true, true, true, true, true, true, true, true, true, true, true, true, true, true, true, true, true, true, true, true, true, true, true, true, true, true, true, true, true, true, true, true, true, false, false, false, false, false, false, false, false, false, false, false, false, false, false, false, false, false, false, false] rfl rfl (by kernel_rfl) (fun _ _ _ h => h) (Or.inl ⟨by rfl, ?_⟩) ?_ ?_
  rotate_left
  · intro w'
    go_simp
    with_reducible rfl
  rotate_left
  · simp only [Act.put, List.setIfInBounds_toArray, List.set_cons_zero, List.set_cons_succ, i64_w, i32_w]
    rfl
  refine pure_ (i := 43) (N := (some 90)) (v := ?_) (a' := ?_) #[true, true, true, true, true, true, true, true, true, true, true, true, true, true, true, true, true, true, true, true, true, true, true, true, true, true, true, true, true, true, true, true, true, true, true, true, true, true, true, true, true, true, true, true, false, false, false, false, false, false, false, false, false, false, false, false, false, false, false, false, false, false] rfl rfl (by kernel_rfl) (fun _ _ _ h => h) (Or.inl ⟨by rfl, ?_⟩) ?_ ?_
  rotate_left
  · intro w'
    go_simp
    with_reducible rfl
  rotate_left
  · simp only [Act.put, List.setIfInBounds_toArray, List.set_cons_zero, List.set_cons_succ, i64_w, i32_w]
    rfl
  refine pure_ (i := 44) (N := (some 91)) (v := ?_) (a' := ?_) #[true, true, true, true, true, true, true, true, true, true, true, true, true, true, true, true, true, true, true, true, true, true, true, true, true, true, true, true, true, true, true, true, true, true, true, true, true, true, true, true, true, true, true, true, true, false, false, false, false, false, false, false, false, false, false, false, false, false, false, false, false, false] rfl rfl (by kernel_rfl) (fun _ _ _ h => h) (Or.inl ⟨by rfl, ?_⟩) ?_ ?_
  rotate_left
  · intro w'
    go_simp
    with_reducible rfl
  rotate_left
  · simp only [Act.put, List.setIfInBounds_toArray, List.set_cons_zero, List.set_cons_succ, i64_w, i32_w]
    rfl
  refine pure_ (i := 45) (N := (some 92)) (v := ?_) (a' := ?_) #[true, true, true, true, true, true, true, true, true, true, true, true, true, true, true, true, true, true, true, true, true, true, true, true, true, true, true, true, true, true, true, true, true, true, true, true, true, true, true, true, true, true, true, true, true, true, false, false, false, false, false, false, false, false, false, false, false, false, false, false, false, false] rfl rfl (by kernel_rfl) (fun _ _ _ h => h) (Or.inl ⟨by rfl, ?_⟩) ?_ ?_
  rotate_left
  · intro w'
    go_simp
    with_reducible rfl
  rotate_left
  · simp only [Act.put, List.setIfInBounds_toArray, List.set_cons_zero, List.set_cons_succ, i64_w, i32_w]
    rfl
  refine pure_ (i := 46) (N := (some 93)) (v := ?_) (a' := ?_) #[true, true, true, true, true, true, true, true, true, true, true, true, true, true, true, true, true, true, true, true, true, true, true, true, true, true, true, true, true, true, true, true, true, true, true, true, true, true, true, true, true, true, true, true, true, true, true, false, false, false, false, false, false, false, false, false, false, false, false, false, false, false] rfl rfl (by kernel_rfl) (fun _ _ _ h => h) (Or.inl ⟨by rfl, ?_⟩) ?_ ?_
  rotate_left
  · intro w'
    go_simp
    with_reducible rfl
  rotate_left
  · simp only [Act.put, List.setIfInBounds_toArray, List.set_cons_zero, List.set_cons_succ, i64_w, i32_w]
    rfl
  refine pure_ (i := 47) (N := (some 94)) (v := ?_) (a' := ?_) #[true, true, true, true, true, true, true, true, true, true, true, true, true, true, true, true, true, true, true, true, true, true, true, true, true, true, true, true, true, true, true, true, true, true, true, true, true, true, true, true, true, true, true, true, true, true, true, true, false, false, false, false, false, false, false, false, false, false, false, false, false, false] rfl rfl (by kernel_rfl) (fun _ _ _ h => h) (Or.inl ⟨by rfl, ?_⟩) ?_ ?_
  rotate_left
  · intro w'
    go_simp
    with_reducible rfl
  rotate_left
  · simp only [Act.put, List.setIfInBounds_toArray, List.set_cons_zero, List.set_cons_succ, i64_w, i32_w]
    rfl
  refine pure_ (i := 48) (N := (some 95)) (v := ?_) (a' := ?_) #[true, true, true, true, true, true, true, true, true, true, true, true, true, true, true, true, true, true, true, true, true, true, true, true, true, true, true, true, true, true, true, true, true, true, true, true, true, true, true, true, true, true, true, true, true, true, true, true, true, false, false, false, false, false, false, false, false, false, false, false, false, false] rfl rfl (by kernel_rfl) (fun _ _ _ h => h) (Or.inl ⟨by rfl, ?_⟩) ?_ ?_
  rotate_left
  · intro w'
    go_simp
    with_reducible rfl
  rotate_left
  · simp only [Act.put, List.setIfInBounds_toArray, List.set_cons_zero, List.set_cons_succ, i64_w, i32_w]
    rfl
  refine pure_ (i := 49) (N := (some 96)) (v := ?_) (a' := ?_) #[true, true, true, true, true, true, true, true, true, true, true, true, true, true, true, true, true, true, true, true, true, true, true, true, true, true, true, true, true, true, true, true, true, true, true, true, true, true, true, true, true, true, true, true, true, true, true, true, true, true, false, false, false, false, false, false, false, false, false, false, false, false] rfl rfl (by kernel_rfl) (fun _ _ _ h => h) (Or.inl ⟨by rfl, ?_⟩) ?_ ?_
  rotate_left
  · intro w'
    go_simp
    with_reducible rfl
  rotate_left
  · simp only [Act.put, List.setIfInBounds_toArray, List.set_cons_zero, List.set_cons_succ, i64_w, i32_w]
    rfl
  refine one_ (i := 50) (N := (some 97)) #[true, true, true, true, true, true, true, true, true, true, true, true, true, true, true, true, true, true, true, true, true, true, true, true, true, true, true, true, true, true, true, true, true, true, true, true, true, true, true, true, true, true, true, true, true, true, true, true, true, true, true, false, false, false, false, false, false, false, false, false, false, false] rfl rfl (by kernel_rfl) (by decide) (fun K hK => ?_)
  refine goes_ Try.func14 (by kernel_rfl) rfl #[.slice (some adl) L3.length c] (by rfl) rfl rfl (by (try simp only [List.map_toArray, List.map_cons, List.map_nil]); first | done | rfl) ?_
  with_reducible refine (valid_n (some adl) L3.length c L3 true _ (Kd.C_below HCL.out hHeld) rfl HLC.out HY.out.2.2.2.2.2.2.1.1).mono ?_
  rintro e w' ⟨rfl, hb⟩
  refine ⟨_, rfl, ?_⟩
  refine hK.out _ _ (below_step hHeld hb) (fun hHeld => ?_)
  clear hK K
  clear hb
  refine norm_ (a' := ?_) ?_ ?_
  rotate_left
  · show Act.put _ (some 97) _ = _
    simp only [Act.put, List.setIfInBounds_toArray, List.set_cons_zero, List.set_cons_succ, i64_w, i32_w]
    rfl
  refine pure_ (i := 51) (N := (some 98)) (v := ?_) (a' := ?_) #[true, true, true, true, true, true, true, true, true, true, true, true, true, true, true, true, true, true, true, true, true, true, true, true, true, true, true, true, true, true, true, true, true, true, true, true, true, true, true, true, true, true, true, true, true, true, true, true, true, true, true, true, false, false, false, false, false, false, false, false, false, false] rfl rfl (by kernel_rfl) (fun _ _ _ h => h) (Or.inl ⟨by rfl, ?_⟩) ?_ ?_
  rotate_left
  · intro w'
    go_simp
    with_reducible rfl
  rotate_left
  · simp only [Act.put, List.setIfInBounds_toArray, List.set_cons_zero, List.set_cons_succ, i64_w, i32_w]
    rfl
  refine pure_ (i := 52) (N := (some 99)) (v := ?_) (a' := ?_) #[true, true, true, true, true, true, true, true, true, true, true, true, true, true, true, true, true, true, true, true, true, true, true, true, true, true, true, true, true, true, true, true, true, true, true, true, true, true, true, true, true, true, true, true, true, true, true, true, true, true, true, true, true, false, false, false, false, false, false, false, false, false] rfl rfl (by kernel_rfl) (fun _ _ _ h => h) (Or.inl ⟨by rfl, ?_⟩) ?_ ?_
  rotate_left
  · intro w'
    go_simp
    with_reducible rfl
  rotate_left
  · simp only [Act.put, List.setIfInBounds_toArray, List.set_cons_zero, List.set_cons_succ, i64_w, i32_w]
    rfl
  refine take_ (i := 53) (N := (some 100)) (v := ?_) (a' := ?_) #[true, true, true, true, true, true, true, true, true, true, true, true, true, true, true, true, true, true, true, true, true, true, true, true, true, true, true, true, true, true, true, true, true, true, true, true, true, true, true, true, true, true, true, true, true, true, true, true, true, true, true, true, true, true, false, false, false, false, false, false, false, false] rfl rfl (by kernel_rfl) (fun _ _ _ h => h) (Or.inl ⟨by rfl, ?_⟩) hHeld ?_ ?_
  rotate_left
  · rintro w' sb
    have c0 := pw_cell_below sb lb0
    have c1 := pw_cell_below sb lb1
    have d0 := pw_cell_below sb ot0
    have d1 := pw_cell_below sb ot1
    have d2 := pw_cell_below sb ot2
    have d3 := pw_cell_below sb ot3
    have d4 := pw_cell_below sb ot4
    have d5 := pw_cell_below sb ot5
    have d6 := pw_cell_below sb ot6
    have d7 := pw_cell_below sb ot7
    have e0 := pw_cell_below sb l0
    have e1 := pw_cell_below sb l1
    have e2 := pw_cell_below sb l2
    have e3 := pw_cell_below sb l3
    have e4 := pw_cell_below sb l4
    have e5 := pw_cell_below sb l5
    have e6 := pw_cell_below sb l6
    have e7 := pw_cell_below sb l7
    clear sb
    go_simp
    with_reducible rfl
  rotate_left
  · simp only [Act.put, List.setIfInBounds_toArray, List.set_cons_zero, List.set_cons_succ, i64_w, i32_w]
    rfl
  refine pure_ (i := 54) (N := (some 101)) (v := ?_) (a' := ?_) #[true, true, true, true, true, true, true, true, true, true, true, true, true, true, true, true, true, true, true, true, true, true, true, true, true, true, true, true, true, true, true, true, true, true, true, true, true, true, true, true, true, true, true, true, true, true, true, true, true, true, true, true, true, true, true, false, false, false, false, false, false, false] rfl rfl (by kernel_rfl) (fun _ _ _ h => h) (Or.inl ⟨by rfl, ?_⟩) ?_ ?_
  rotate_left
  · intro w'
    go_simp
    with_reducible rfl
  rotate_left
  · simp only [Act.put, List.setIfInBounds_toArray, List.set_cons_zero, List.set_cons_succ, i64_w, i32_w]
    rfl
  refine pure_ (i := 55) (N := (some 102)) (v := ?_) (a' := ?_) #[true, true, true, true, true, true, true, true, true, true, true, true, true, true, true, true, true, true, true, true, true, true, true, true, true, true, true, true, true, true, true, true, true, true, true, true, true, true, true, true, true, true, true, true, true, true, true, true, true, true, true, true, true, true, true, true, false, false, false, false, false, false] rfl rfl (by kernel_rfl) (fun _ _ _ h => h) (Or.inl ⟨by rfl, ?_⟩) ?_ ?_
  rotate_left
  · intro w'
    go_simp
    with_reducible rfl
  rotate_left
  · simp only [Act.put, List.setIfInBounds_toArray, List.set_cons_zero, List.set_cons_succ, i64_w, i32_w]
    rfl
  refine take_ (i := 56) (N := (some 103)) (v := ?_) (a' := ?_) #[true, true, true, true, true, true, true, true, true, true, true, true, true, true, true, true, true, true, true, true, true, true, true, true, true, true, true, true, true, true, true, true, true, true, true, true, true, true, true, true, true, true, true, true, true, true, true, true, true, true, true, true, true, true, true, true, true, false, false, false, false, false] rfl rfl (by kernel_rfl) (fun _ _ _ h => h) (Or.inl ⟨by rfl, ?_⟩) hHeld ?_ ?_
  rotate_left
  · rintro w' sb
    have c0 := pw_cell_below sb lb0
    have c1 := pw_cell_below sb lb1
    have d0 := pw_cell_below sb ot0
    have d1 := pw_cell_below sb ot1
    have d2 := pw_cell_below sb ot2
    have d3 := pw_cell_below sb ot3
    have d4 := pw_cell_below sb ot4
    have d5 := pw_cell_below sb ot5
    have d6 := pw_cell_below sb ot6
    have d7 := pw_cell_below sb ot7
    have e0 := pw_cell_below sb l0
    have e1 := pw_cell_below sb l1
    have e2 := pw_cell_below sb l2
    have e3 := pw_cell_below sb l3
    have e4 := pw_cell_below sb l4
    have e5 := pw_cell_below sb l5
    have e6 := pw_cell_below sb l6
    have e7 := pw_cell_below sb l7
    clear sb
    go_simp
    with_reducible rfl
  rotate_left
  · simp only [Act.put, List.setIfInBounds_toArray, List.set_cons_zero, List.set_cons_succ, i64_w, i32_w]
    rfl
  refine one_ (i := 57) (N := (some 104)) #[true, true, true, true, true, true, true, true, true, true, true, true, true, true, true, true, true, true, true, true, true, true, true, true, true, true, true, true, true, true, true, true, true, true, true, true, true, true, true, true, true, true, true, true, true, true, true, true, true, true, true, true, true, true, true, true, true, true, false, false, false, false] rfl rfl (by kernel_rfl) (by decide) (fun K hK => ?_)
  refine Kd.R_lit_step k24 _ 24 ?hg (N := 104) ?hd (xs := [oth, hOd 7 2 10 500]) (inner := [.int .i64 7, .string (⟨#[97, 110, 110, 97]⟩ : ByteArray), .string (⟨#[115, 104, 111, 112]⟩ : ByteArray), .int .i64 2, .int .i64 30, .int .i64 0, .int .i64 0, .bool false, .int .i64 7, .string (⟨#[97, 110, 110, 97]⟩ : ByteArray), .string (⟨#[98, 97, 110, 107]⟩ : ByteArray), .int .i64 2, .int .i64 10, .int .i64 0, .int .i64 500, .bool false]) (ok := fun _ => True) (okp := fun _ => True) ?hr ?hp (fun _ hk => hk) trivial (Below.refl _ _) (Nat.le_refl _) (by simp) ?_
  case hd => rfl
  case hg => rfl
  case hr => first | (go_simp; done) | (go_simp; rfl)
  case hp => exact (Reps.c8 (show Kd.M k24 _ _ _ oth [.int .i64 7, .string (⟨#[97, 110, 110, 97]⟩ : ByteArray), .string (⟨#[115, 104, 111, 112]⟩ : ByteArray), .int .i64 2, .int .i64 30, .int .i64 0, .int .i64 0, .bool false] from (k24_mkM _ _ _ oth)) (Reps.c8 (show Kd.M k24 _ _ _ (hOd 7 2 10 500) [.int .i64 7, .string (⟨#[97, 110, 110, 97]⟩ : ByteArray), .string (⟨#[98, 97, 110, 107]⟩ : ByteArray), .int .i64 2, .int .i64 10, .int .i64 0, .int .i64 500, .bool false] from (k24_mkM _ _ _ (hOd 7 2 10 500))) (Reps.none _ _)))
  intro vx wx hRx hbx hgx hatx
  obtain ⟨Ax, cx, ex⟩ := Kd.R_slice hRx
  obtain rfl : vx = .slice Ax 2 cx := ex
  have HX := Lib.hid (Kd.R_reads' hRx).2
  have hHeld2 := below_step hHeld hbx
  clear hRx hbx hgx hatx hHeld
  refine hK.out _ _ hHeld2 (fun hHeld => ?_)
  clear hK K hHeld2
  refine norm_ (a' := ?_) ?_ ?_
  rotate_left
  · show Act.put _ (some 104) _ = _
    simp only [Act.put, List.setIfInBounds_toArray, List.set_cons_zero, List.set_cons_succ, i64_w, i32_w]
    rfl
  refine one_ (i := 58) (N := (some 105)) #[true, true, true, true, true, true, true, true, true, true, true, true, true, true, true, true, true, true, true, true, true, true, true, true, true, true, true, true, true, true, true, true, true, true, true, true, true, true, true, true, true, true, true, true, true, true, true, true, true, true, true, true, true, true, true, true, true, true, true, false, false, false] rfl rfl (by kernel_rfl) (by decide) (fun K hK => ?_)
  refine goes_ Try.func14 (by kernel_rfl) rfl #[.slice Ax 2 cx] (by rfl) rfl rfl (by (try simp only [List.map_toArray, List.map_cons, List.map_nil]); first | done | rfl) ?_
  with_reducible refine (valid_n Ax 2 cx [oth, hOd 7 2 10 500] false _ HX.out.2 rfl HX.out.1 HY.out.2.2.2.2.2.2.1.2).mono ?_
  rintro e w' ⟨rfl, hb⟩
  refine ⟨_, rfl, ?_⟩
  refine hK.out _ _ (below_step hHeld hb) (fun hHeld => ?_)
  clear hK K
  clear hb
  refine norm_ (a' := ?_) ?_ ?_
  rotate_left
  · show Act.put _ (some 105) _ = _
    simp only [Act.put, List.setIfInBounds_toArray, List.set_cons_zero, List.set_cons_succ, i64_w, i32_w]
    rfl
  refine pure_ (i := 59) (N := (some 106)) (v := ?_) (a' := ?_) #[true, true, true, true, true, true, true, true, true, true, true, true, true, true, true, true, true, true, true, true, true, true, true, true, true, true, true, true, true, true, true, true, true, true, true, true, true, true, true, true, true, true, true, true, true, true, true, true, true, true, true, true, true, true, true, true, true, true, true, true, false, false] rfl rfl (by kernel_rfl) (fun _ _ _ h => h) (Or.inl ⟨by rfl, ?_⟩) ?_ ?_
  rotate_left
  · intro w'
    go_simp
    with_reducible rfl
  rotate_left
  · simp only [Act.put, List.setIfInBounds_toArray, List.set_cons_zero, List.set_cons_succ, i64_w, i32_w]
    rfl
  refine pure_ (i := 60) (N := (some 107)) (v := ?_) (a' := ?_) #[true, true, true, true, true, true, true, true, true, true, true, true, true, true, true, true, true, true, true, true, true, true, true, true, true, true, true, true, true, true, true, true, true, true, true, true, true, true, true, true, true, true, true, true, true, true, true, true, true, true, true, true, true, true, true, true, true, true, true, true, true, false] rfl rfl (by kernel_rfl) (fun _ _ _ h => h) (Or.inl ⟨by rfl, ?_⟩) ?_ ?_
  rotate_left
  · intro w'
    go_simp
    with_reducible rfl
  rotate_left
  · simp only [Act.put, List.setIfInBounds_toArray, List.set_cons_zero, List.set_cons_succ, i64_w, i32_w]
    rfl
  refine pure_ (i := 61) (N := (some 0)) (v := ?_) (a' := ?_) #[true, true, true, true, true, true, true, true, true, true, true, true, true, true, true, true, true, true, true, true, true, true, true, true, true, true, true, true, true, true, true, true, true, true, true, true, true, true, true, true, true, true, true, true, true, true, true, true, true, true, true, true, true, true, true, true, true, true, true, true, true, true] rfl rfl (by kernel_rfl) (fun _ _ _ h => h) (Or.inl ⟨by rfl, ?_⟩) ?_ ?_
  rotate_left
  · intro w'
    go_simp
    with_reducible rfl
  rotate_left
  · simp only [Act.put, List.setIfInBounds_toArray, List.set_cons_zero, List.set_cons_succ, i64_w, i32_w]
    rfl
  refine done_ (by kernel_rfl) ?_
  go_wp2_with fail
  go_ret
  exact ⟨rfl, below_step HP13.out.1.1.1.1.1.1 hHeld⟩
theorem head31_true : wageofficelaw31_head.f = some true := rfl
theorem wageofficelaw31_head.calls (r : Bool) (w : World) (h : wageofficelaw31_head.f = some r) : Calls Try.prog 10 #[] w fun e w' => e = .returned (.bool r) ∧ Below w.heap.size w w' := by
  injection h with h
  subst h
  exact head_any w
end Go.Proofs.Ytgbcihbnaecejaa.Q

namespace Go.Proofs.Ytgbcihbnaecejaa.Q
open Go.RowKit Go.Proofs.YtgbcihbnaecejaaW.PrintWords Go.Proofs.YtgbcihbnaecejaaW.PrintLast Go.Proofs.YtgbcihbnaecejaaW.PrintMore
attribute [local go_sem] max2_int min2_int max_two min_two max_three min_three max_four min_four   -- for this text's walks alone
set_option linter.unusedVariables false
set_option linter.unusedSimpArgs false
mutual
def wageofficelaw31_OrdersClocks.j0 : Nat → List (S24) → ByteArray → Int → Int → Bool → Bool → Int → ByteArray → ByteArray → Int → Int → Int → Int → Bool → Option (Bool)
  | 0, _, _, _, _, _, _, _, _, _, _, _, _, _, _ => none
  | k + 1, x0, x2, x3, x4, x11, x24, x208000, x208001, x208002, x208003, x208004, x208005, x208006, x208007 => if x24 = true then (some x11) else (wageofficelaw31_OrdersClocks.l0 k x0 x2 x3 x4 x11 0 x208000 x208001 x208002 x208003 x208004 x208005 x208006 x208007)
def wageofficelaw31_OrdersClocks.j2 : Nat → List (S24) → ByteArray → Int → Int → Bool → Int → Int → ByteArray → ByteArray → Int → Int → Int → Int → Bool → Option (Bool)
  | 0, _, _, _, _, _, _, _, _, _, _, _, _, _, _ => none
  | k + 1, x0, x2, x3, x4, x11, x12, x208000, x208001, x208002, x208003, x208004, x208005, x208006, x208007 => (orders_Open.f x0 x2 x3 x4).bind fun t212 => (if 0 ≤ x12 then (if x12 ≤ (x0.length : Int) then ((orders_Open.f (x0.take (x12 : Int).toNat) x2 x3 x4).bind fun t219 => ((wageofficeref31_Same.f k t212 t219).bind fun t222 => (if t222 = true then ((orders_Record.f x0 x208000 x208001 x208002 x208003 x208004 x208005 x208006 x208007).bind fun bt223 => (if x11 = true then (if bt223.2 = 0 then (if x208004 ≤ x4 then (some true) else ((orders_Open.f bt223.1 x2 x3 x4).bind fun t227 => ((wageofficeref31_Same.f k t212 t227).bind fun t230 => (some t230)))) else (some true)) else (none))) else (none)))) else (none)) else (none))
def wageofficelaw31_OrdersClocks.l0 : Nat → List (S24) → ByteArray → Int → Int → Bool → Int → Int → ByteArray → ByteArray → Int → Int → Int → Int → Bool → Option (Bool)
  | 0, _, _, _, _, _, _, _, _, _, _, _, _, _, _ => none
  | k + 1, x0, x2, x3, x4, x11, x12, x208000, x208001, x208002, x208003, x208004, x208005, x208006, x208007 => if x12 < (x0.length : Int) then (if 0 ≤ x12 then (if ((rd_T24 x0 x12).f4) ≤ x4 then (wageofficelaw31_OrdersClocks.l0 k x0 x2 x3 x4 x11 (wrap64 (x12 + 1)) x208000 x208001 x208002 x208003 x208004 x208005 x208006 x208007) else (wageofficelaw31_OrdersClocks.j2 k x0 x2 x3 x4 x11 x12 x208000 x208001 x208002 x208003 x208004 x208005 x208006 x208007)) else (none)) else (wageofficelaw31_OrdersClocks.j2 k x0 x2 x3 x4 x11 x12 x208000 x208001 x208002 x208003 x208004 x208005 x208006 x208007)
end
def wageofficelaw31_OrdersClocks.f (k : Nat) (l0 : List (S24)) (a1_0 : Int) (a1_1 : ByteArray) (a1_2 : ByteArray) (a1_3 : Int) (a1_4 : Int) (a1_5 : Int) (a1_6 : Int) (a1_7 : Bool) (a2 : ByteArray) (a3 : Int) (a4 : Int) : Option (Bool) := (wageofficelaw31_head.f).bind fun t208 => ((wageofficelaw31_short.f l0).bind fun t209 => (if t209 = true then ((wageofficeref31_Valid.f l0).bind fun t210 => (wageofficelaw31_OrdersClocks.j0 k l0 a2 a3 a4 t208 (!t210) a1_0 a1_1 a1_2 a1_3 a1_4 a1_5 a1_6 a1_7)) else (wageofficelaw31_OrdersClocks.j0 k l0 a2 a3 a4 t208 true a1_0 a1_1 a1_2 a1_3 a1_4 a1_5 a1_6 a1_7)))
theorem wageofficelaw31_OrdersClocks.mono_l : ∀ k, (∀ y0 y1 y2 y3 y4 y5 y6 y7 y8 y9 y10 y11 y12 y13, LeO (wageofficelaw31_OrdersClocks.j0 k y0 y1 y2 y3 y4 y5 y6 y7 y8 y9 y10 y11 y12 y13) (wageofficelaw31_OrdersClocks.j0 (k + 1) y0 y1 y2 y3 y4 y5 y6 y7 y8 y9 y10 y11 y12 y13)) ∧ (∀ y0 y1 y2 y3 y4 y5 y6 y7 y8 y9 y10 y11 y12 y13, LeO (wageofficelaw31_OrdersClocks.j2 k y0 y1 y2 y3 y4 y5 y6 y7 y8 y9 y10 y11 y12 y13) (wageofficelaw31_OrdersClocks.j2 (k + 1) y0 y1 y2 y3 y4 y5 y6 y7 y8 y9 y10 y11 y12 y13)) ∧ (∀ y0 y1 y2 y3 y4 y5 y6 y7 y8 y9 y10 y11 y12 y13, LeO (wageofficelaw31_OrdersClocks.l0 k y0 y1 y2 y3 y4 y5 y6 y7 y8 y9 y10 y11 y12 y13) (wageofficelaw31_OrdersClocks.l0 (k + 1) y0 y1 y2 y3 y4 y5 y6 y7 y8 y9 y10 y11 y12 y13))
  | 0 => ⟨fun _ _ _ _ _ _ _ _ _ _ _ _ _ _ r h => by simp [wageofficelaw31_OrdersClocks.j0] at h, fun _ _ _ _ _ _ _ _ _ _ _ _ _ _ r h => by simp [wageofficelaw31_OrdersClocks.j2] at h, fun _ _ _ _ _ _ _ _ _ _ _ _ _ _ r h => by simp [wageofficelaw31_OrdersClocks.l0] at h⟩
  | k + 1 => by
    obtain ⟨ih0, ih1, ih2⟩ := wageofficelaw31_OrdersClocks.mono_l k
    refine ⟨?_, ?_, ?_⟩
    · intro y0 y1 y2 y3 y4 y5 y6 y7 y8 y9 y10 y11 y12 y13
      unfold wageofficelaw31_OrdersClocks.j0
      repeat' first
      | (with_reducible exact ih0 _ _ _ _ _ _ _ _ _ _ _ _ _ _)
      | (with_reducible exact ih1 _ _ _ _ _ _ _ _ _ _ _ _ _ _)
      | (with_reducible exact ih2 _ _ _ _ _ _ _ _ _ _ _ _ _ _)
      | (with_reducible exact wageofficeref31_Same.mono _ _ _)
      | (with_reducible exact LeO.refl _)
      | (with_reducible exact LeO.none _)
      | (with_reducible refine LeO.ite ?_ ?_)
      | (with_reducible refine LeO.bind ?_ (fun _ => ?_))
      | exact ih0 _ _ _ _ _ _ _ _ _ _ _ _ _ _
      | exact ih1 _ _ _ _ _ _ _ _ _ _ _ _ _ _
      | exact ih2 _ _ _ _ _ _ _ _ _ _ _ _ _ _
      | exact wageofficeref31_Same.mono _ _ _
      | exact LeO.none _
      | refine LeO.ite ?_ ?_
      | refine LeO.bind ?_ (fun _ => ?_)
    · intro y0 y1 y2 y3 y4 y5 y6 y7 y8 y9 y10 y11 y12 y13
      unfold wageofficelaw31_OrdersClocks.j2
      repeat' first
      | (with_reducible exact ih0 _ _ _ _ _ _ _ _ _ _ _ _ _ _)
      | (with_reducible exact ih1 _ _ _ _ _ _ _ _ _ _ _ _ _ _)
      | (with_reducible exact ih2 _ _ _ _ _ _ _ _ _ _ _ _ _ _)
      | (with_reducible exact wageofficeref31_Same.mono _ _ _)
      | (with_reducible exact LeO.refl _)
      | (with_reducible exact LeO.none _)
      | (with_reducible refine LeO.ite ?_ ?_)
      | (with_reducible refine LeO.bind ?_ (fun _ => ?_))
      | exact ih0 _ _ _ _ _ _ _ _ _ _ _ _ _ _
      | exact ih1 _ _ _ _ _ _ _ _ _ _ _ _ _ _
      | exact ih2 _ _ _ _ _ _ _ _ _ _ _ _ _ _
      | exact wageofficeref31_Same.mono _ _ _
      | exact LeO.none _
      | refine LeO.ite ?_ ?_
      | refine LeO.bind ?_ (fun _ => ?_)
    · intro y0 y1 y2 y3 y4 y5 y6 y7 y8 y9 y10 y11 y12 y13
      unfold wageofficelaw31_OrdersClocks.l0
      repeat' first
      | (with_reducible exact ih0 _ _ _ _ _ _ _ _ _ _ _ _ _ _)
      | (with_reducible exact ih1 _ _ _ _ _ _ _ _ _ _ _ _ _ _)
      | (with_reducible exact ih2 _ _ _ _ _ _ _ _ _ _ _ _ _ _)
      | (with_reducible exact wageofficeref31_Same.mono _ _ _)
      | (with_reducible exact LeO.refl _)
      | (with_reducible exact LeO.none _)
      | (with_reducible refine LeO.ite ?_ ?_)
      | (with_reducible refine LeO.bind ?_ (fun _ => ?_))
      | exact ih0 _ _ _ _ _ _ _ _ _ _ _ _ _ _
      | exact ih1 _ _ _ _ _ _ _ _ _ _ _ _ _ _
      | exact ih2 _ _ _ _ _ _ _ _ _ _ _ _ _ _
      | exact wageofficeref31_Same.mono _ _ _
      | exact LeO.none _
      | refine LeO.ite ?_ ?_
      | refine LeO.bind ?_ (fun _ => ?_)
theorem wageofficelaw31_OrdersClocks.mono : ∀ a0 a1 a2 a3 a4 a5 a6 a7 a8 a9 a10 a11 k, LeO (wageofficelaw31_OrdersClocks.f k a0 a1 a2 a3 a4 a5 a6 a7 a8 a9 a10 a11) (wageofficelaw31_OrdersClocks.f (k + 1) a0 a1 a2 a3 a4 a5 a6 a7 a8 a9 a10 a11) := by
  intro a0 a1 a2 a3 a4 a5 a6 a7 a8 a9 a10 a11 k
  obtain ⟨ih0, ih1, ih2⟩ := wageofficelaw31_OrdersClocks.mono_l k
  unfold wageofficelaw31_OrdersClocks.f
  repeat' first
      | (with_reducible exact ih0 _ _ _ _ _ _ _ _ _ _ _ _ _ _)
      | (with_reducible exact ih1 _ _ _ _ _ _ _ _ _ _ _ _ _ _)
      | (with_reducible exact ih2 _ _ _ _ _ _ _ _ _ _ _ _ _ _)
      | (with_reducible exact wageofficeref31_Same.mono _ _ _)
      | (with_reducible exact LeO.refl _)
      | (with_reducible exact LeO.none _)
      | (with_reducible refine LeO.ite ?_ ?_)
      | (with_reducible refine LeO.bind ?_ (fun _ => ?_))
      | exact ih0 _ _ _ _ _ _ _ _ _ _ _ _ _ _
      | exact ih1 _ _ _ _ _ _ _ _ _ _ _ _ _ _
      | exact ih2 _ _ _ _ _ _ _ _ _ _ _ _ _ _
      | exact wageofficeref31_Same.mono _ _ _
      | exact LeO.none _
      | refine LeO.ite ?_ ?_
      | refine LeO.bind ?_ (fun _ => ?_)
set_option maxHeartbeats 8000000 in
set_option maxRecDepth 100000 in
theorem wageofficelaw31_OrdersClocks.calls (k : Nat) (A0 : Option Addr) (c0 : Nat) (l0 : List (S24)) (a1_0 : Int) (a1_1 : ByteArray) (a1_2 : ByteArray) (a1_3 : Int) (a1_4 : Int) (a1_5 : Int) (a1_6 : Int) (a1_7 : Bool) (a2 : ByteArray) (a3 : Int) (a4 : Int) (r : Bool) (w : World) (hr0 : Kd.C k24 w A0 l0.length l0) (hc0 : l0.length ≤ c0) (h : wageofficelaw31_OrdersClocks.f k l0 a1_0 a1_1 a1_2 a1_3 a1_4 a1_5 a1_6 a1_7 a2 a3 a4 = some r) :
    Calls Try.prog 4 #[.slice A0 l0.length c0, .agg #[.int .i64 a1_0, .string a1_1, .string a1_2, .int .i64 a1_3, .int .i64 a1_4, .int .i64 a1_5, .int .i64 a1_6, .bool a1_7], .string a2, .int .i64 a3, .int .i64 a4] w fun e w' => e = .returned (.bool r) ∧ Below w.heap.size w w' := by
  have hu24 := Try.underlying24
  have HR0 := Aside0.mk hr0
  have HC0 := Aside0.mk hc0
  clear hr0 hc0
  have HB := Aside0.mk (Below.refl w.heap.size w)
  have H : ((wageofficelaw31_head.f).bind fun t208 => ((wageofficelaw31_short.f l0).bind fun t209 => (if t209 = true then ((wageofficeref31_Valid.f l0).bind fun t210 => (wageofficelaw31_OrdersClocks.j0 k l0 a2 a3 a4 t208 (!t210) a1_0 a1_1 a1_2 a1_3 a1_4 a1_5 a1_6 a1_7)) else (wageofficelaw31_OrdersClocks.j0 k l0 a2 a3 a4 t208 true a1_0 a1_1 a1_2 a1_3 a1_4 a1_5 a1_6 a1_7)))) = some r := h
  clear h
  replace H := Option.bind_eq_some_iff.mp H
  obtain ⟨t208, A60, H⟩ := H
  replace H : ((wageofficelaw31_short.f l0).bind fun t209 => (if t209 = true then ((wageofficeref31_Valid.f l0).bind fun t210 => (wageofficelaw31_OrdersClocks.j0 k l0 a2 a3 a4 t208 (!t210) a1_0 a1_1 a1_2 a1_3 a1_4 a1_5 a1_6 a1_7)) else (wageofficelaw31_OrdersClocks.j0 k l0 a2 a3 a4 t208 true a1_0 a1_1 a1_2 a1_3 a1_4 a1_5 a1_6 a1_7))) = some r := H
  have A6 := Aside0.mk A60
  clear A60
  have HC7 := Aside0.mk H
  clear H
  go_enter Try.func4, Try.ntmps4
  go_upto_region 2 with (first | ((with_reducible refine gate_dst (N := 6) rfl ?_); refine box_event ?hg (N := 6) ?hd (cs := #[.int .i64 a1_0, .string a1_1, .string a1_2, .int .i64 a1_3, .int .i64 a1_4, .int .i64 a1_5, .int .i64 a1_6, .bool a1_7]) (t := 24) ?hr ?_; (case hd => rfl); (case hg => rfl); (case hr => first | (go_simp; done) | (go_simp; rfl)); intro gb207 hg w8 hbox hb; have n0_ := Aside0.mk (below_step (by repeat (first | (with_reducible first | exact HB.out | apply below_alloc | apply pw_below_drewN | apply below_drew1) | exact HB.out)) hb); have n1_ := Aside0.mk (hbox); have n2_ := Aside0.mk ((by rw [hg]; exact (below_size (by repeat (first | (with_reducible first | exact HB.out | apply below_alloc | apply pw_below_drewN | apply below_drew1) | exact HB.out))) : w.heap.size ≤ gb207)); have n3_ := Aside0.mk ((by rw [hg]; exact (below_size (by repeat (first | (with_reducible first | exact HB.out | apply below_alloc | apply pw_below_drewN | apply below_drew1) | exact HB.out))) : w.heap.size ≤ gb207)); clear HB; have HB := n0_; have BK207 := n1_; have GW207 := n2_; have GE207 := n3_; clear n0_ n1_ n2_ n3_; clear hb hbox hg) | ((with_reducible refine gate_callee (f := 10) rfl ?_); refine goesL_ (some 16) rfl rfl Try.func10 (by kernel_rfl) rfl #[] rfl (by (try simp only [List.map_toArray, List.map_cons, List.map_nil]); first | done | rfl | (simp only [List.length_drop, List.length_take]; rfl)) ?_; (with_reducible refine (wageofficelaw31_head.calls  t208 _ A6.out).mono ?_); rintro e w9 ⟨rfl, hb⟩; refine ⟨_, rfl, ?_⟩; have n0_ := Aside0.mk (blk_below (g := gb207) (o := .cells #[.int .i64 a1_0, .string a1_1, .string a1_2, .int .i64 a1_3, .int .i64 a1_4, .int .i64 a1_5, .int .i64 a1_6, .bool a1_7] 24 (0, 0)) (by (with_reducible repeat (first | refine blk_drewN ?_ _ | refine blk_drew ?_ | refine blk_alloc ?_ _)); exact BK207.out) hb); have n1_ := Aside0.mk (below_step (by repeat (first | (with_reducible first | exact HB.out | apply below_alloc | apply pw_below_drewN | apply below_drew1 | refine below_set ?_ GE207.out) | exact HB.out)) hb); clear BK207; clear HB; have BK207 := n0_; have HB := n1_; clear n0_ n1_; (try clear hb); (try clear hb2); (try clear hk); (try clear hi)))
  (try simp only [Act.put, List.setIfInBounds_toArray, List.set_cons_zero, List.set_cons_succ])
  go_cut [24] (fun v24 wc => ∃ (kq : Nat) (x24_6 : Bool), v24 = .bool x24_6 ∧ Aside0 (wageofficelaw31_OrdersClocks.j0 kq l0 a2 a3 a4 t208 x24_6 a1_0 a1_1 a1_2 a1_3 a1_4 a1_5 a1_6 a1_7 = some r) ∧ Aside0 (kq ≤ k) ∧ Aside0 (wc.heap[gb207]? = some (.cells #[.int .i64 a1_0, .string a1_1, .string a1_2, .int .i64 a1_3, .int .i64 a1_4, .int .i64 a1_5, .int .i64 a1_6, .bool a1_7] 24 (0, 0))) ∧ Aside0 (Below w.heap.size w wc))
  case first =>
    have H := HC7.out
    clear HC7
    replace H := Option.bind_eq_some_iff.mp H
    obtain ⟨t209, A100, H⟩ := H
    replace H : (if t209 = true then ((wageofficeref31_Valid.f l0).bind fun t210 => (wageofficelaw31_OrdersClocks.j0 k l0 a2 a3 a4 t208 (!t210) a1_0 a1_1 a1_2 a1_3 a1_4 a1_5 a1_6 a1_7)) else (wageofficelaw31_OrdersClocks.j0 k l0 a2 a3 a4 t208 true a1_0 a1_1 a1_2 a1_3 a1_4 a1_5 a1_6 a1_7)) = some r := H
    have A10 := Aside0.mk A100
    clear A100
    by_cases c11 : t209 = true
    · subst c11
      have H1 : ((wageofficeref31_Valid.f l0).bind fun t210 => (wageofficelaw31_OrdersClocks.j0 k l0 a2 a3 a4 t208 (!t210) a1_0 a1_1 a1_2 a1_3 a1_4 a1_5 a1_6 a1_7)) = some r := by rw [if_pos rfl] at H; exact H
      clear H
      have H := H1
      clear H1
      replace H := Option.bind_eq_some_iff.mp H
      obtain ⟨t210, A120, H⟩ := H
      replace H : (wageofficelaw31_OrdersClocks.j0 k l0 a2 a3 a4 t208 (!t210) a1_0 a1_1 a1_2 a1_3 a1_4 a1_5 a1_6 a1_7) = some r := H
      have A12 := Aside0.mk A120
      clear A120
      have H' := Aside0.mk H
      clear H
      go_wp2_with (first | ((with_reducible refine gate_callee (f := 11) rfl ?_); refine goesL_ (some 18) rfl rfl Try.func11 (by kernel_rfl) rfl #[.slice A0 l0.length c0] rfl (by (try simp only [List.map_toArray, List.map_cons, List.map_nil]); first | done | rfl | (simp only [List.length_drop, List.length_take]; rfl)) ?_; (with_reducible refine (wageofficelaw31_short.calls _ _ l0 true _ ?side1 ?side2 A10.out).mono ?_); (case side1 => repeat (first | exact (Kd.C_below HR0.out HB.out) | (with_reducible refine Kd.C_alloc ?_ _) | (with_reducible refine Kd.C_drewN ?_ _) | (with_reducible refine Kd.C_drew ?_))); (case side2 => exact HC0.out); rintro e w' ⟨rfl, ⟨nd, rfl⟩⟩; refine ⟨_, rfl, ?_⟩) | (go_at_call 15; (with_reducible refine (wageofficeref31_Valid.calls _ _ l0 t210 _ ?side1 ?side2 A12.out).mono ?_); (case side1 => repeat (first | exact (Kd.C_below HR0.out (by repeat (first | (with_reducible first | exact HB.out | apply below_alloc | apply pw_below_drewN | apply below_drew1 | refine below_set ?_ GE207.out) | exact HB.out))) | (with_reducible refine Kd.C_alloc ?_ _) | (with_reducible refine Kd.C_drewN ?_ _) | (with_reducible refine Kd.C_drew ?_))); (case side2 => exact HC0.out); rintro e w13 ⟨rfl, hb⟩; have n0_ := Aside0.mk (blk_below (g := gb207) (o := .cells #[.int .i64 a1_0, .string a1_1, .string a1_2, .int .i64 a1_3, .int .i64 a1_4, .int .i64 a1_5, .int .i64 a1_6, .bool a1_7] 24 (0, 0)) (by (with_reducible repeat (first | refine blk_drewN ?_ _ | refine blk_drew ?_ | refine blk_alloc ?_ _)); exact BK207.out) hb); have n1_ := Aside0.mk (below_step (by repeat (first | (with_reducible first | exact HB.out | apply below_alloc | apply pw_below_drewN | apply below_drew1 | refine below_set ?_ GE207.out) | exact HB.out)) hb); clear BK207; clear HB; have BK207 := n0_; have HB := n1_; clear n0_ n1_; (try clear hb); (try clear hb2); (try clear hk); (try clear hi)))
      go_meet
      case rel => exact ⟨_, (!t210), (by first | rfl | (simp; done) | (simp [*]; done)), H', ⟨by first | omega | exact Nat.le_refl _⟩, ⟨by (with_reducible repeat (first | refine blk_drewN ?_ _ | refine blk_drew ?_ | refine blk_alloc ?_ _)); exact BK207.out⟩, ⟨by repeat (first | (with_reducible first | exact HB.out | apply below_alloc | apply pw_below_drewN | apply below_drew1 | refine below_set ?_ GE207.out) | exact HB.out)⟩⟩
    · replace c11 := Bool.eq_false_iff.mpr c11
      subst c11
      have H1 : (wageofficelaw31_OrdersClocks.j0 k l0 a2 a3 a4 t208 true a1_0 a1_1 a1_2 a1_3 a1_4 a1_5 a1_6 a1_7) = some r := by rw [if_neg (show ¬ (false = true) by decide)] at H; exact H
      clear H
      have H := H1
      clear H1
      have H' := Aside0.mk H
      clear H
      go_wp2_with (first | ((with_reducible refine gate_callee (f := 11) rfl ?_); refine goesL_ (some 18) rfl rfl Try.func11 (by kernel_rfl) rfl #[.slice A0 l0.length c0] rfl (by (try simp only [List.map_toArray, List.map_cons, List.map_nil]); first | done | rfl | (simp only [List.length_drop, List.length_take]; rfl)) ?_; (with_reducible refine (wageofficelaw31_short.calls _ _ l0 false _ ?side1 ?side2 A10.out).mono ?_); (case side1 => repeat (first | exact (Kd.C_below HR0.out HB.out) | (with_reducible refine Kd.C_alloc ?_ _) | (with_reducible refine Kd.C_drewN ?_ _) | (with_reducible refine Kd.C_drew ?_))); (case side2 => exact HC0.out); rintro e w' ⟨rfl, ⟨nd, rfl⟩⟩; refine ⟨_, rfl, ?_⟩))
      go_meet
      case rel => exact ⟨_, (true), (by first | rfl | (simp; done) | (simp [*]; done)), H', ⟨by first | omega | exact Nat.le_refl _⟩, ⟨by (with_reducible repeat (first | refine blk_drewN ?_ _ | refine blk_drew ?_ | refine blk_alloc ?_ _)); exact BK207.out⟩, ⟨by repeat (first | (with_reducible first | exact HB.out | apply below_alloc | apply pw_below_drewN | apply below_drew1 | refine below_set ?_ GE207.out) | exact HB.out)⟩⟩
  case rest =>
    clear HC7
    try clear c1
    try clear p2
    try clear c4
    try clear c10
    try clear c11
    obtain ⟨kq, x24_6, rfl, HA, HJ6, BK207, HB⟩ := hcut
    cases kq with
    | zero => exact absurd HA.out (by simp [wageofficelaw31_OrdersClocks.j0])
    | succ kj6 =>
      have H := HA.out
      clear HA
      simp only [wageofficelaw31_OrdersClocks.j0] at H
      by_cases c14 : x24_6 = true
      · subst c14
        have H1 : (some t208) = some r := by rw [if_pos rfl] at H; exact H
        clear H
        have H := H1
        clear H1
        obtain rfl := Option.some.inj H
        go_wp2
        go_ret
        exact ⟨by first | rfl | (simp [errW_none, errW_some] <;> rfl) | (simp [*, errW_none, errW_some] <;> rfl), by repeat (first | (with_reducible first | exact HB.out | apply below_alloc | apply pw_below_drewN | apply below_drew1 | refine below_set ?_ GE207.out) | exact HB.out)⟩
      · replace c14 := Bool.eq_false_iff.mpr c14
        subst c14
        have H1 : (wageofficelaw31_OrdersClocks.l0 kj6 l0 a2 a3 a4 t208 0 a1_0 a1_1 a1_2 a1_3 a1_4 a1_5 a1_6 a1_7) = some r := by rw [if_neg (show ¬ (false = true) by decide)] at H; exact H
        clear H
        have H := H1
        clear H1
        have HC15 := Aside0.mk H
        clear H
        go_upto_block 0 with (fail)
        go_cut [12] (fun v12 wc => ∃ (kq : Nat) (x12_14 : Int), v12 = .int .i64 x12_14 ∧ Aside0 (wageofficelaw31_OrdersClocks.j2 kq l0 a2 a3 a4 t208 x12_14 a1_0 a1_1 a1_2 a1_3 a1_4 a1_5 a1_6 a1_7 = some r) ∧ Aside0 (kq ≤ kj6) ∧ Aside0 (wc.heap[gb207]? = some (.cells #[.int .i64 a1_0, .string a1_1, .string a1_2, .int .i64 a1_3, .int .i64 a1_4, .int .i64 a1_5, .int .i64 a1_6, .bool a1_7] 24 (0, 0))) ∧ Aside0 (Below w.heap.size w wc))
        case first =>
          have H := HC15.out
          clear HC15
          have H' := Aside0.mk H
          clear H
          go_wp2
          go_loopg [12] kj6 (fun kq v12 w' => ∃ (x12_2 : Int), v12 = .int .i64 x12_2 ∧ Aside0 (wageofficelaw31_OrdersClocks.l0 kq l0 a2 a3 a4 t208 x12_2 a1_0 a1_1 a1_2 a1_3 a1_4 a1_5 a1_6 a1_7 = some r) ∧ Aside0 (kq ≤ kj6) ∧ Aside0 (w'.heap[gb207]? = some (.cells #[.int .i64 a1_0, .string a1_1, .string a1_2, .int .i64 a1_3, .int .i64 a1_4, .int .i64 a1_5, .int .i64 a1_6, .bool a1_7] 24 (0, 0))) ∧ Aside0 (Below w.heap.size w w'))
          case atStart => exact ⟨(0), (by first | rfl | (simp; done) | (simp [*]; done)), H', ⟨Nat.le_refl _⟩, ⟨by (with_reducible repeat (first | refine blk_drewN ?_ _ | refine blk_drew ?_ | refine blk_alloc ?_ _)); exact BK207.out⟩, ⟨by repeat (first | (with_reducible first | exact HB.out | apply below_alloc | apply pw_below_drewN | apply below_drew1 | refine below_set ?_ GE207.out) | exact HB.out)⟩⟩
          case round =>
            clear H'
            try clear c1
            try clear p2
            try clear c4
            try clear c10
            try clear c11
            try clear c14
            try clear p2
            obtain ⟨x12_2, rfl, HA, HK2, BK207, HB⟩ := hrel
            cases gk with
            | zero => exact absurd HA.out (by simp [wageofficelaw31_OrdersClocks.l0])
            | succ k2 =>
              have H := HA.out
              clear HA
              simp only [wageofficelaw31_OrdersClocks.l0] at H
              by_cases c16 : x12_2 < (l0.length : Int)
              · rw [if_pos c16] at H
                have c16b0 : decide (x12_2 < (l0.length : Int)) = true := decide_eq_true c16
                clear c16
                (first | rw [c16b0] | (simp only [i64_w, i32_w]; rw [c16b0]) | rw [c16b1] | skip)
                by_cases c17 : 0 ≤ x12_2
                · rw [if_pos c17] at H
                  have c17b0 : decide (0 ≤ x12_2) = true := decide_eq_true c17
                  clear c17
                  by_cases c18 : ((rd_T24 l0 x12_2).f4) ≤ a4
                  · rw [if_pos c18] at H
                    have c18b0 : decide (((rd_T24 l0 x12_2).f4) ≤ a4) = true := decide_eq_true c18
                    clear c18
                    have H' := Aside0.mk H
                    clear H
                    have p211 : 0 ≤ (x12_2 : Int) := of_decide_eq_true (by first | (with_reducible assumption) | assumption)
                    have q211 : x12_2 < (l0.length : Int) := of_decide_eq_true (by first | (with_reducible assumption) | assumption)
                    obtain ⟨ad211, e211, hx211_0, hx211_1, hx211_2, hx211_3, hx211_4, hx211_5, hx211_6, hx211_7⟩ := at_T24 HR0.out x12_2 p211 q211
                    cases e211
                    replace hx211_0 := (HB.out.cell (World.block_lt_of_cell? w _ hx211_0)).trans hx211_0
                    replace hx211_1 := (HB.out.cell (World.block_lt_of_cell? w _ hx211_1)).trans hx211_1
                    replace hx211_2 := (HB.out.cell (World.block_lt_of_cell? w _ hx211_2)).trans hx211_2
                    replace hx211_3 := (HB.out.cell (World.block_lt_of_cell? w _ hx211_3)).trans hx211_3
                    replace hx211_4 := (HB.out.cell (World.block_lt_of_cell? w _ hx211_4)).trans hx211_4
                    replace hx211_5 := (HB.out.cell (World.block_lt_of_cell? w _ hx211_5)).trans hx211_5
                    replace hx211_6 := (HB.out.cell (World.block_lt_of_cell? w _ hx211_6)).trans hx211_6
                    replace hx211_7 := (HB.out.cell (World.block_lt_of_cell? w _ hx211_7)).trans hx211_7
                    replace p211 := eq_true p211
                    replace q211 := eq_true q211
                    go_wp2
                    go_roundg k2
                    case measure => have := HJ6.out; have := HK2.out; omega
                    case rel => exact ⟨(wrap64 (x12_2 + 1)), (by first | rfl | (simp; done) | (simp [*]; done)), H', ⟨by have := HJ6.out; have := HK2.out; omega⟩, ⟨by (with_reducible repeat (first | refine blk_drewN ?_ _ | refine blk_drew ?_ | refine blk_alloc ?_ _)); exact BK207.out⟩, ⟨by repeat (first | (with_reducible first | exact HB.out | apply below_alloc | apply pw_below_drewN | apply below_drew1 | refine below_set ?_ GE207.out) | exact HB.out)⟩⟩
                  · rw [if_neg c18] at H
                    have c18b0 : decide (((rd_T24 l0 x12_2).f4) ≤ a4) = false := decide_eq_false c18
                    clear c18
                    have H' := Aside0.mk H
                    clear H
                    have p211 : 0 ≤ (x12_2 : Int) := of_decide_eq_true (by first | (with_reducible assumption) | assumption)
                    have q211 : x12_2 < (l0.length : Int) := of_decide_eq_true (by first | (with_reducible assumption) | assumption)
                    obtain ⟨ad211, e211, hx211_0, hx211_1, hx211_2, hx211_3, hx211_4, hx211_5, hx211_6, hx211_7⟩ := at_T24 HR0.out x12_2 p211 q211
                    cases e211
                    replace hx211_0 := (HB.out.cell (World.block_lt_of_cell? w _ hx211_0)).trans hx211_0
                    replace hx211_1 := (HB.out.cell (World.block_lt_of_cell? w _ hx211_1)).trans hx211_1
                    replace hx211_2 := (HB.out.cell (World.block_lt_of_cell? w _ hx211_2)).trans hx211_2
                    replace hx211_3 := (HB.out.cell (World.block_lt_of_cell? w _ hx211_3)).trans hx211_3
                    replace hx211_4 := (HB.out.cell (World.block_lt_of_cell? w _ hx211_4)).trans hx211_4
                    replace hx211_5 := (HB.out.cell (World.block_lt_of_cell? w _ hx211_5)).trans hx211_5
                    replace hx211_6 := (HB.out.cell (World.block_lt_of_cell? w _ hx211_6)).trans hx211_6
                    replace hx211_7 := (HB.out.cell (World.block_lt_of_cell? w _ hx211_7)).trans hx211_7
                    replace p211 := eq_true p211
                    replace q211 := eq_true q211
                    go_wp2
                    go_meet
                    case rel => exact ⟨_, (x12_2), (by first | rfl | (simp; done) | (simp [*]; done)), H', ⟨by have := HJ6.out; have := HK2.out; first | omega | exact Nat.le_refl _⟩, ⟨by (with_reducible repeat (first | refine blk_drewN ?_ _ | refine blk_drew ?_ | refine blk_alloc ?_ _)); exact BK207.out⟩, ⟨by repeat (first | (with_reducible first | exact HB.out | apply below_alloc | apply pw_below_drewN | apply below_drew1 | refine below_set ?_ GE207.out) | exact HB.out)⟩⟩
                · rw [if_neg c17] at H
                  exact absurd H (by simp)
              · rw [if_neg c16] at H
                have c16b0 : decide (x12_2 < (l0.length : Int)) = false := decide_eq_false c16
                clear c16
                (first | rw [c16b0] | (simp only [i64_w, i32_w]; rw [c16b0]) | rw [c16b1] | skip)
                have H' := Aside0.mk H
                clear H
                go_wp2
                go_meet
                case rel => exact ⟨_, (x12_2), (by first | rfl | (simp; done) | (simp [*]; done)), H', ⟨by have := HJ6.out; have := HK2.out; first | omega | exact Nat.le_refl _⟩, ⟨by (with_reducible repeat (first | refine blk_drewN ?_ _ | refine blk_drew ?_ | refine blk_alloc ?_ _)); exact BK207.out⟩, ⟨by repeat (first | (with_reducible first | exact HB.out | apply below_alloc | apply pw_below_drewN | apply below_drew1 | refine below_set ?_ GE207.out) | exact HB.out)⟩⟩
        case rest =>
          clear HC15
          try clear c1
          try clear p2
          try clear q2
          try clear hx2
          try clear c4
          try clear p6
          try clear c10
          try clear c11
          try clear c14
          try clear c16
          try clear c16b0
          try clear c16b1
          try clear c17
          try clear c17b0
          try clear c18
          try clear c18b0
          try clear hx211_0
          try clear hx211_1
          try clear hx211_2
          try clear hx211_3
          try clear hx211_4
          try clear hx211_5
          try clear hx211_6
          try clear hx211_7
          try clear p2
          try clear p211
          try clear q211
          obtain ⟨kq, x12_14, rfl, HA, HJ14, BK207, HB⟩ := hcut
          cases kq with
          | zero => exact absurd HA.out (by simp [wageofficelaw31_OrdersClocks.j2])
          | succ kj14 =>
            have H := HA.out
            clear HA
            simp only [wageofficelaw31_OrdersClocks.j2] at H
            replace H := Option.bind_eq_some_iff.mp H
            obtain ⟨t212, A190, H⟩ := H
            replace H : (if 0 ≤ x12_14 then (if x12_14 ≤ (l0.length : Int) then ((orders_Open.f (l0.take (x12_14 : Int).toNat) a2 a3 a4).bind fun t219 => ((wageofficeref31_Same.f kj14 t212 t219).bind fun t222 => (if t222 = true then ((orders_Record.f l0 a1_0 a1_1 a1_2 a1_3 a1_4 a1_5 a1_6 a1_7).bind fun bt223 => (if t208 = true then (if bt223.2 = 0 then (if a1_4 ≤ a4 then (some true) else ((orders_Open.f bt223.1 a2 a3 a4).bind fun t227 => ((wageofficeref31_Same.f kj14 t212 t227).bind fun t230 => (some t230)))) else (some true)) else (none))) else (none)))) else (none)) else (none)) = some r := H
            have A19 := Aside0.mk A190
            clear A190
            by_cases c20 : 0 ≤ x12_14
            · rw [if_pos c20] at H
              have c20b0 := eq_true c20
              have c20b1 : decide (0 ≤ x12_14) = true := decide_eq_true c20
              clear c20
              by_cases c21 : x12_14 ≤ (l0.length : Int)
              · rw [if_pos c21] at H
                have c21b0 := eq_true c21
                have c21b1 : decide (x12_14 ≤ (l0.length : Int)) = true := decide_eq_true c21
                clear c21
                obtain ⟨y215, hy215⟩ : ∃ y_ : List (S24), y_ = (l0.take (x12_14 : Int).toNat) := ⟨_, rfl⟩
                replace H : ((orders_Open.f y215 a2 a3 a4).bind fun t219 => ((wageofficeref31_Same.f kj14 t212 t219).bind fun t222 => (if t222 = true then ((orders_Record.f l0 a1_0 a1_1 a1_2 a1_3 a1_4 a1_5 a1_6 a1_7).bind fun bt223 => (if t208 = true then (if bt223.2 = 0 then (if a1_4 ≤ a4 then (some true) else ((orders_Open.f bt223.1 a2 a3 a4).bind fun t227 => ((wageofficeref31_Same.f kj14 t212 t227).bind fun t230 => (some t230)))) else (some true)) else (none))) else (none)))) = some r := by first | (rw [hy215]; with_reducible exact H) | (have H2_ := (Option.bind_some _ _).symm.trans H; rw [hy215]; with_reducible exact H2_) | (have H2_ := (Option.bind_some _ _).symm.trans H; with_reducible exact H2_) | with_reducible exact H | (rw [hy215]; exact H) | exact H
                have Ny215 := Aside0.mk hy215
                clear hy215
                replace H := Option.bind_eq_some_iff.mp H
                obtain ⟨t219, A220, H⟩ := H
                replace H : ((wageofficeref31_Same.f kj14 t212 t219).bind fun t222 => (if t222 = true then ((orders_Record.f l0 a1_0 a1_1 a1_2 a1_3 a1_4 a1_5 a1_6 a1_7).bind fun bt223 => (if t208 = true then (if bt223.2 = 0 then (if a1_4 ≤ a4 then (some true) else ((orders_Open.f bt223.1 a2 a3 a4).bind fun t227 => ((wageofficeref31_Same.f kj14 t212 t227).bind fun t230 => (some t230)))) else (some true)) else (none))) else (none))) = some r := H
                have A22 := Aside0.mk A220
                clear A220
                replace H := Option.bind_eq_some_iff.mp H
                obtain ⟨t222, A230, H⟩ := H
                replace H : (if t222 = true then ((orders_Record.f l0 a1_0 a1_1 a1_2 a1_3 a1_4 a1_5 a1_6 a1_7).bind fun bt223 => (if t208 = true then (if bt223.2 = 0 then (if a1_4 ≤ a4 then (some true) else ((orders_Open.f bt223.1 a2 a3 a4).bind fun t227 => ((wageofficeref31_Same.f kj14 t212 t227).bind fun t230 => (some t230)))) else (some true)) else (none))) else (none)) = some r := H
                have A23 := Aside0.mk A230
                clear A230
                by_cases c24 : t222 = true
                · subst c24
                  have H1 : ((orders_Record.f l0 a1_0 a1_1 a1_2 a1_3 a1_4 a1_5 a1_6 a1_7).bind fun bt223 => (if t208 = true then (if bt223.2 = 0 then (if a1_4 ≤ a4 then (some true) else ((orders_Open.f bt223.1 a2 a3 a4).bind fun t227 => ((wageofficeref31_Same.f kj14 t212 t227).bind fun t230 => (some t230)))) else (some true)) else (none))) = some r := by rw [if_pos rfl] at H; exact H
                  clear H
                  have H := H1
                  clear H1
                  replace H := Option.bind_eq_some_iff.mp H
                  obtain ⟨⟨t223, t226⟩, A250, H⟩ := H
                  replace H : (if t208 = true then (if t226 = 0 then (if a1_4 ≤ a4 then (some true) else ((orders_Open.f t223 a2 a3 a4).bind fun t227 => ((wageofficeref31_Same.f kj14 t212 t227).bind fun t230 => (some t230)))) else (some true)) else (none)) = some r := H
                  have A25 := Aside0.mk A250
                  clear A250
                  by_cases c26 : t208 = true
                  · subst c26
                    have H1 : (if t226 = 0 then (if a1_4 ≤ a4 then (some true) else ((orders_Open.f t223 a2 a3 a4).bind fun t227 => ((wageofficeref31_Same.f kj14 t212 t227).bind fun t230 => (some t230)))) else (some true)) = some r := by rw [if_pos rfl] at H; exact H
                    clear H
                    have H := H1
                    clear H1
                    by_cases c27 : t226 = 0
                    · rw [if_pos c27] at H
                      have c27b0 : (t226 == 0) = true := beq_iff_eq.mpr c27
                      have c27b1 : (t226 != 0) = false := bne_eq_false_iff_eq.mpr c27
                      clear c27
                      by_cases c28 : a1_4 ≤ a4
                      · rw [if_pos c28] at H
                        have c28b0 : decide (a1_4 ≤ a4) = true := decide_eq_true c28
                        clear c28
                        obtain rfl := Option.some.inj H
                        go_wp2_with (first | ((with_reducible refine gate_callee (f := 17) rfl ?_); refine goesL_ (some 45) rfl rfl Try.func17 (by kernel_rfl) rfl #[.slice A0 l0.length c0, .string a2, .int .i64 a3, .int .i64 a4] rfl (by (try simp only [List.map_toArray, List.map_cons, List.map_nil]); first | done | rfl | (simp only [List.length_drop, List.length_take]; rfl)) ?_; (with_reducible refine (orders_Open.calls _ _ l0 a2 a3 a4 t212 _ ?side1 ?side2 A19.out).mono ?_); (case side1 => repeat (first | exact (Kd.C_below HR0.out HB.out) | (with_reducible refine Kd.C_alloc ?_ _) | (with_reducible refine Kd.C_drewN ?_ _) | (with_reducible refine Kd.C_drew ?_))); (case side2 => exact HC0.out); rintro e w29 ⟨v213, rfl, ho0, hb⟩; refine ⟨_, rfl, ?_⟩; have n0_ := Aside0.mk (Kd.R_lower (Kd.R_newB ho0 (g := gb207) (o := .cells #[.int .i64 a1_0, .string a1_1, .string a1_2, .int .i64 a1_3, .int .i64 a1_4, .int .i64 a1_5, .int .i64 a1_6, .bool a1_7] 24 (0, 0)) (by (with_reducible repeat (first | refine blk_drewN ?_ _ | refine blk_drew ?_ | refine blk_alloc ?_ _)); exact BK207.out)) (below_size (by repeat (first | (with_reducible first | exact HB.out | apply below_alloc | apply pw_below_drewN | apply below_drew1 | refine below_set ?_ GE207.out) | exact HB.out)))); have n1_ := Aside0.mk (blk_below (g := gb207) (o := .cells #[.int .i64 a1_0, .string a1_1, .string a1_2, .int .i64 a1_3, .int .i64 a1_4, .int .i64 a1_5, .int .i64 a1_6, .bool a1_7] 24 (0, 0)) (by (with_reducible repeat (first | refine blk_drewN ?_ _ | refine blk_drew ?_ | refine blk_alloc ?_ _)); exact BK207.out) hb); have n2_ := Aside0.mk (below_step (by repeat (first | (with_reducible first | exact HB.out | apply below_alloc | apply pw_below_drewN | apply below_drew1 | refine below_set ?_ GE207.out) | exact HB.out)) hb); clear BK207; clear HB; have HO214 := n0_; have BK207 := n1_; have HB := n2_; clear n0_ n1_ n2_; (try clear hb); (try clear hb2); (try clear hk); (try clear hi); (try clear ho0); have q30 : (x12_14 : Int) ≤ ((l0.length : Int) : Int) := of_decide_eq_true (by first | (with_reducible assumption) | assumption); obtain ⟨i030, hi030, _, hsz30, _⟩ := info_parts info24; have hroom30 : l0.length ≤ c0 := HC0.out; have hC30 : Kd.C k24 _ A0 l0.length l0 := HR0.out; have hcut30 := cut_to (P := Try.prog) 22 24 .i64 Try.underlying22 hi030 A0 l0.length c0 x12_14 (of_decide_eq_true (by first | (with_reducible assumption) | assumption)) q30 hroom30; have hr30 := Kd.C_take (m := (x12_14 : Int).toNat) hC30 (by omega); have hy30 : y215.length = (x12_14 : Int).toNat := (by rw [Ny215.out, List.length_take]; omega); rw [← Ny215.out] at hr30; rw [← hy30] at hcut30; have HR218 := Aside0.mk hr30; have HC218 := Aside0.mk (show y215.length ≤ c0 from by omega); clear hr30 hC30 hroom30 hi030 hsz30; have KY30 := Aside0.mk hy30; clear hy30; replace q30 := eq_true q30) | ((with_reducible refine gate_callee (f := 17) rfl ?_); refine goesL_ (some 53) rfl rfl Try.func17 (by kernel_rfl) rfl #[.slice A0 y215.length c0, .string a2, .int .i64 a3, .int .i64 a4] rfl (by (try simp only [List.map_toArray, List.map_cons, List.map_nil]); first | done | rfl | (simp only [List.length_drop, List.length_take]; rfl)) ?_; (with_reducible refine (orders_Open.calls _ _ y215 a2 a3 a4 t219 _ ?side1 ?side2 A22.out).mono ?_); (case side1 => repeat (first | exact (Kd.C_below HR218.out HB.out) | (with_reducible refine Kd.C_alloc ?_ _) | (with_reducible refine Kd.C_drewN ?_ _) | (with_reducible refine Kd.C_drew ?_))); (case side2 => exact HC218.out); rintro e w31 ⟨v220, rfl, ho0, hb⟩; refine ⟨_, rfl, ?_⟩; have n0_ := Aside0.mk (Kd.R_elder' (by (with_reducible repeat (first | apply Kd.R_alloc | apply Kd.R_drewN | apply Kd.R_drew)); exact HO214.out) (Kd.R_base ho0) hb); have n1_ := Aside0.mk (Kd.R_lower (Kd.R_newB (Kd.R_new' ho0 (Kd.R_lt (by (with_reducible repeat (first | apply Kd.R_alloc | apply Kd.R_drewN | apply Kd.R_drew)); exact HO214.out))) (g := gb207) (o := .cells #[.int .i64 a1_0, .string a1_1, .string a1_2, .int .i64 a1_3, .int .i64 a1_4, .int .i64 a1_5, .int .i64 a1_6, .bool a1_7] 24 (0, 0)) (by (with_reducible repeat (first | refine blk_drewN ?_ _ | refine blk_drew ?_ | refine blk_alloc ?_ _)); exact BK207.out)) (below_size (by repeat (first | (with_reducible first | exact HB.out | apply below_alloc | apply pw_below_drewN | apply below_drew1 | refine below_set ?_ GE207.out) | exact HB.out)))); have n2_ := Aside0.mk (blk_below (g := gb207) (o := .cells #[.int .i64 a1_0, .string a1_1, .string a1_2, .int .i64 a1_3, .int .i64 a1_4, .int .i64 a1_5, .int .i64 a1_6, .bool a1_7] 24 (0, 0)) (by (with_reducible repeat (first | refine blk_drewN ?_ _ | refine blk_drew ?_ | refine blk_alloc ?_ _)); exact BK207.out) hb); have n3_ := Aside0.mk (below_step (by repeat (first | (with_reducible first | exact HB.out | apply below_alloc | apply pw_below_drewN | apply below_drew1 | refine below_set ?_ GE207.out) | exact HB.out)) hb); clear HO214; clear BK207; clear HB; have HO214 := n0_; have HO221 := n1_; have BK207 := n2_; have HB := n3_; clear n0_ n1_ n2_ n3_; (try clear hb); (try clear hb2); (try clear hk); (try clear hi); (try clear ho0); obtain ⟨Ao32, co32, eo32⟩ := Kd.R_slice HO214.out; subst eo32; obtain ⟨Ao33, co33, eo33⟩ := Kd.R_slice HO221.out; subst eo33) | ((with_reducible refine gate_callee (f := 16) rfl ?_); refine goesL_ (some 54) rfl rfl Try.func16 (by kernel_rfl) rfl #[.slice Ao32 t212.length co32, .slice Ao33 t219.length co33] rfl (by (try simp only [List.map_toArray, List.map_cons, List.map_nil]); first | done | rfl | (simp only [List.length_drop, List.length_take]; rfl)) ?_; (with_reducible refine (wageofficeref31_Same.calls kj14 _ _ t212 _ _ t219 true _ ?side1 ?side2 ?side3 ?side4 A23.out).mono ?_); (case side1 => repeat (first | exact (Kd.R_reads' HO214.out).2.2 | (with_reducible refine Kd.C_alloc ?_ _) | (with_reducible refine Kd.C_drewN ?_ _) | (with_reducible refine Kd.C_drew ?_))); (case side2 => exact (Kd.R_reads' HO214.out).2.1); (case side3 => repeat (first | exact (Kd.R_reads' HO221.out).2.2 | (with_reducible refine Kd.C_alloc ?_ _) | (with_reducible refine Kd.C_drewN ?_ _) | (with_reducible refine Kd.C_drew ?_))); (case side4 => exact (Kd.R_reads' HO221.out).2.1); rintro e w' ⟨rfl, ⟨nd, rfl⟩⟩; refine ⟨_, rfl, ?_⟩; have hcz34_0 : w31.cell? ⟨gb207, 0, none⟩ = some (.int .i64 a1_0) := (blk_cell BK207.out 0).trans rfl; have hcz34_1 : w31.cell? ⟨gb207, 1, none⟩ = some (.string a1_1) := (blk_cell BK207.out 1).trans rfl; have hcz34_2 : w31.cell? ⟨gb207, 2, none⟩ = some (.string a1_2) := (blk_cell BK207.out 2).trans rfl; have hcz34_3 : w31.cell? ⟨gb207, 3, none⟩ = some (.int .i64 a1_3) := (blk_cell BK207.out 3).trans rfl; have hcz34_4 : w31.cell? ⟨gb207, 4, none⟩ = some (.int .i64 a1_4) := (blk_cell BK207.out 4).trans rfl; have hcz34_5 : w31.cell? ⟨gb207, 5, none⟩ = some (.int .i64 a1_5) := (blk_cell BK207.out 5).trans rfl; have hcz34_6 : w31.cell? ⟨gb207, 6, none⟩ = some (.int .i64 a1_6) := (blk_cell BK207.out 6).trans rfl; have hcz34_7 : w31.cell? ⟨gb207, 7, none⟩ = some (.bool a1_7) := (blk_cell BK207.out 7).trans rfl; have hfz34_0 := blk_frozen BK207.out 0; have hfz34_1 := blk_frozen BK207.out 1; have hfz34_2 := blk_frozen BK207.out 2; have hfz34_3 := blk_frozen BK207.out 3; have hfz34_4 := blk_frozen BK207.out 4; have hfz34_5 := blk_frozen BK207.out 5; have hfz34_6 := blk_frozen BK207.out 6; have hfz34_7 := blk_frozen BK207.out 7) | ((with_reducible refine gate_callee (f := 12) rfl ?_); refine goesL_ (some 59) rfl rfl Try.func12 (by kernel_rfl) rfl #[.slice A0 l0.length c0, .agg #[.int .i64 a1_0, .string a1_1, .string a1_2, .int .i64 a1_3, .int .i64 a1_4, .int .i64 a1_5, .int .i64 a1_6, .bool a1_7]] rfl (by (try simp only [List.map_toArray, List.map_cons, List.map_nil]); first | done | rfl | (simp only [List.length_drop, List.length_take]; rfl)) ?_; (with_reducible refine (orders_Record.calls _ _ l0 a1_0 a1_1 a1_2 a1_3 a1_4 a1_5 a1_6 a1_7 t223 t226 _ ?side1 ?side2 A25.out).mono ?_); (case side1 => repeat (first | exact (Kd.C_below HR0.out (by repeat (first | (with_reducible first | exact HB.out | apply below_alloc | apply pw_below_drewN | apply below_drew1 | refine below_set ?_ GE207.out) | exact HB.out))) | (with_reducible refine Kd.C_alloc ?_ _) | (with_reducible refine Kd.C_drewN ?_ _) | (with_reducible refine Kd.C_drew ?_))); (case side2 => exact HC0.out); rintro e w35 ⟨v224, rfl, ho0, hb⟩; refine ⟨_, rfl, ?_⟩; have n0_ := Aside0.mk (Kd.R_elder' (by (with_reducible repeat (first | apply Kd.R_alloc | apply Kd.R_drewN | apply Kd.R_drew)); exact HO214.out) (Kd.R_base ho0) hb); have n1_ := Aside0.mk (Kd.R_elder' (by (with_reducible repeat (first | apply Kd.R_alloc | apply Kd.R_drewN | apply Kd.R_drew)); exact HO221.out) (Kd.R_base ho0) hb); have n2_ := Aside0.mk (Kd.R_lower (Kd.R_newB (Kd.R_new' (Kd.R_new' ho0 (Kd.R_lt (by (with_reducible repeat (first | apply Kd.R_alloc | apply Kd.R_drewN | apply Kd.R_drew)); exact HO214.out))) (Kd.R_lt (by (with_reducible repeat (first | apply Kd.R_alloc | apply Kd.R_drewN | apply Kd.R_drew)); exact HO221.out))) (g := gb207) (o := .cells #[.int .i64 a1_0, .string a1_1, .string a1_2, .int .i64 a1_3, .int .i64 a1_4, .int .i64 a1_5, .int .i64 a1_6, .bool a1_7] 24 (0, 0)) (by (with_reducible repeat (first | refine blk_drewN ?_ _ | refine blk_drew ?_ | refine blk_alloc ?_ _)); exact BK207.out)) (below_size (by repeat (first | (with_reducible first | exact HB.out | apply below_alloc | apply pw_below_drewN | apply below_drew1 | refine below_set ?_ GE207.out) | exact HB.out)))); have n3_ := Aside0.mk (blk_below (g := gb207) (o := .cells #[.int .i64 a1_0, .string a1_1, .string a1_2, .int .i64 a1_3, .int .i64 a1_4, .int .i64 a1_5, .int .i64 a1_6, .bool a1_7] 24 (0, 0)) (by (with_reducible repeat (first | refine blk_drewN ?_ _ | refine blk_drew ?_ | refine blk_alloc ?_ _)); exact BK207.out) hb); have n4_ := Aside0.mk (below_step (by repeat (first | (with_reducible first | exact HB.out | apply below_alloc | apply pw_below_drewN | apply below_drew1 | refine below_set ?_ GE207.out) | exact HB.out)) hb); clear HO214; clear HO221; clear BK207; clear HB; have HO214 := n0_; have HO221 := n1_; have HO225 := n2_; have BK207 := n3_; have HB := n4_; clear n0_ n1_ n2_ n3_ n4_; (try clear hb); (try clear hb2); (try clear hk); (try clear hi); (try clear ho0); have hcz36_0 : w35.cell? ⟨gb207, 0, none⟩ = some (.int .i64 a1_0) := (blk_cell BK207.out 0).trans rfl; have hcz36_1 : w35.cell? ⟨gb207, 1, none⟩ = some (.string a1_1) := (blk_cell BK207.out 1).trans rfl; have hcz36_2 : w35.cell? ⟨gb207, 2, none⟩ = some (.string a1_2) := (blk_cell BK207.out 2).trans rfl; have hcz36_3 : w35.cell? ⟨gb207, 3, none⟩ = some (.int .i64 a1_3) := (blk_cell BK207.out 3).trans rfl; have hcz36_4 : w35.cell? ⟨gb207, 4, none⟩ = some (.int .i64 a1_4) := (blk_cell BK207.out 4).trans rfl; have hcz36_5 : w35.cell? ⟨gb207, 5, none⟩ = some (.int .i64 a1_5) := (blk_cell BK207.out 5).trans rfl; have hcz36_6 : w35.cell? ⟨gb207, 6, none⟩ = some (.int .i64 a1_6) := (blk_cell BK207.out 6).trans rfl; have hcz36_7 : w35.cell? ⟨gb207, 7, none⟩ = some (.bool a1_7) := (blk_cell BK207.out 7).trans rfl; have hfz36_0 := blk_frozen BK207.out 0; have hfz36_1 := blk_frozen BK207.out 1; have hfz36_2 := blk_frozen BK207.out 2; have hfz36_3 := blk_frozen BK207.out 3; have hfz36_4 := blk_frozen BK207.out 4; have hfz36_5 := blk_frozen BK207.out 5; have hfz36_6 := blk_frozen BK207.out 6; have hfz36_7 := blk_frozen BK207.out 7))
                        go_ret
                        exact ⟨by first | rfl | (simp [errW_none, errW_some] <;> rfl) | (simp [*, errW_none, errW_some] <;> rfl), by repeat (first | (with_reducible first | exact HB.out | apply below_alloc | apply pw_below_drewN | apply below_drew1 | refine below_set ?_ GE207.out) | exact HB.out)⟩
                      · rw [if_neg c28] at H
                        have c28b0 : decide (a1_4 ≤ a4) = false := decide_eq_false c28
                        clear c28
                        replace H := Option.bind_eq_some_iff.mp H
                        obtain ⟨t227, A370, H⟩ := H
                        replace H : ((wageofficeref31_Same.f kj14 t212 t227).bind fun t230 => (some t230)) = some r := H
                        have A37 := Aside0.mk A370
                        clear A370
                        replace H := Option.bind_eq_some_iff.mp H
                        obtain ⟨t230, A380, H⟩ := H
                        replace H : (some t230) = some r := H
                        have A38 := Aside0.mk A380
                        clear A380
                        obtain rfl := Option.some.inj H
                        go_wp2_with (first | ((with_reducible refine gate_callee (f := 17) rfl ?_); refine goesL_ (some 45) rfl rfl Try.func17 (by kernel_rfl) rfl #[.slice A0 l0.length c0, .string a2, .int .i64 a3, .int .i64 a4] rfl (by (try simp only [List.map_toArray, List.map_cons, List.map_nil]); first | done | rfl | (simp only [List.length_drop, List.length_take]; rfl)) ?_; (with_reducible refine (orders_Open.calls _ _ l0 a2 a3 a4 t212 _ ?side1 ?side2 A19.out).mono ?_); (case side1 => repeat (first | exact (Kd.C_below HR0.out HB.out) | (with_reducible refine Kd.C_alloc ?_ _) | (with_reducible refine Kd.C_drewN ?_ _) | (with_reducible refine Kd.C_drew ?_))); (case side2 => exact HC0.out); rintro e w39 ⟨v213, rfl, ho0, hb⟩; refine ⟨_, rfl, ?_⟩; have n0_ := Aside0.mk (Kd.R_lower (Kd.R_newB ho0 (g := gb207) (o := .cells #[.int .i64 a1_0, .string a1_1, .string a1_2, .int .i64 a1_3, .int .i64 a1_4, .int .i64 a1_5, .int .i64 a1_6, .bool a1_7] 24 (0, 0)) (by (with_reducible repeat (first | refine blk_drewN ?_ _ | refine blk_drew ?_ | refine blk_alloc ?_ _)); exact BK207.out)) (below_size (by repeat (first | (with_reducible first | exact HB.out | apply below_alloc | apply pw_below_drewN | apply below_drew1 | refine below_set ?_ GE207.out) | exact HB.out)))); have n1_ := Aside0.mk (blk_below (g := gb207) (o := .cells #[.int .i64 a1_0, .string a1_1, .string a1_2, .int .i64 a1_3, .int .i64 a1_4, .int .i64 a1_5, .int .i64 a1_6, .bool a1_7] 24 (0, 0)) (by (with_reducible repeat (first | refine blk_drewN ?_ _ | refine blk_drew ?_ | refine blk_alloc ?_ _)); exact BK207.out) hb); have n2_ := Aside0.mk (below_step (by repeat (first | (with_reducible first | exact HB.out | apply below_alloc | apply pw_below_drewN | apply below_drew1 | refine below_set ?_ GE207.out) | exact HB.out)) hb); clear BK207; clear HB; have HO214 := n0_; have BK207 := n1_; have HB := n2_; clear n0_ n1_ n2_; (try clear hb); (try clear hb2); (try clear hk); (try clear hi); (try clear ho0); have q40 : (x12_14 : Int) ≤ ((l0.length : Int) : Int) := of_decide_eq_true (by first | (with_reducible assumption) | assumption); obtain ⟨i040, hi040, _, hsz40, _⟩ := info_parts info24; have hroom40 : l0.length ≤ c0 := HC0.out; have hC40 : Kd.C k24 _ A0 l0.length l0 := HR0.out; have hcut40 := cut_to (P := Try.prog) 22 24 .i64 Try.underlying22 hi040 A0 l0.length c0 x12_14 (of_decide_eq_true (by first | (with_reducible assumption) | assumption)) q40 hroom40; have hr40 := Kd.C_take (m := (x12_14 : Int).toNat) hC40 (by omega); have hy40 : y215.length = (x12_14 : Int).toNat := (by rw [Ny215.out, List.length_take]; omega); rw [← Ny215.out] at hr40; rw [← hy40] at hcut40; have HR218 := Aside0.mk hr40; have HC218 := Aside0.mk (show y215.length ≤ c0 from by omega); clear hr40 hC40 hroom40 hi040 hsz40; have KY40 := Aside0.mk hy40; clear hy40; replace q40 := eq_true q40) | ((with_reducible refine gate_callee (f := 17) rfl ?_); refine goesL_ (some 53) rfl rfl Try.func17 (by kernel_rfl) rfl #[.slice A0 y215.length c0, .string a2, .int .i64 a3, .int .i64 a4] rfl (by (try simp only [List.map_toArray, List.map_cons, List.map_nil]); first | done | rfl | (simp only [List.length_drop, List.length_take]; rfl)) ?_; (with_reducible refine (orders_Open.calls _ _ y215 a2 a3 a4 t219 _ ?side1 ?side2 A22.out).mono ?_); (case side1 => repeat (first | exact (Kd.C_below HR218.out HB.out) | (with_reducible refine Kd.C_alloc ?_ _) | (with_reducible refine Kd.C_drewN ?_ _) | (with_reducible refine Kd.C_drew ?_))); (case side2 => exact HC218.out); rintro e w41 ⟨v220, rfl, ho0, hb⟩; refine ⟨_, rfl, ?_⟩; have n0_ := Aside0.mk (Kd.R_elder' (by (with_reducible repeat (first | apply Kd.R_alloc | apply Kd.R_drewN | apply Kd.R_drew)); exact HO214.out) (Kd.R_base ho0) hb); have n1_ := Aside0.mk (Kd.R_lower (Kd.R_newB (Kd.R_new' ho0 (Kd.R_lt (by (with_reducible repeat (first | apply Kd.R_alloc | apply Kd.R_drewN | apply Kd.R_drew)); exact HO214.out))) (g := gb207) (o := .cells #[.int .i64 a1_0, .string a1_1, .string a1_2, .int .i64 a1_3, .int .i64 a1_4, .int .i64 a1_5, .int .i64 a1_6, .bool a1_7] 24 (0, 0)) (by (with_reducible repeat (first | refine blk_drewN ?_ _ | refine blk_drew ?_ | refine blk_alloc ?_ _)); exact BK207.out)) (below_size (by repeat (first | (with_reducible first | exact HB.out | apply below_alloc | apply pw_below_drewN | apply below_drew1 | refine below_set ?_ GE207.out) | exact HB.out)))); have n2_ := Aside0.mk (blk_below (g := gb207) (o := .cells #[.int .i64 a1_0, .string a1_1, .string a1_2, .int .i64 a1_3, .int .i64 a1_4, .int .i64 a1_5, .int .i64 a1_6, .bool a1_7] 24 (0, 0)) (by (with_reducible repeat (first | refine blk_drewN ?_ _ | refine blk_drew ?_ | refine blk_alloc ?_ _)); exact BK207.out) hb); have n3_ := Aside0.mk (below_step (by repeat (first | (with_reducible first | exact HB.out | apply below_alloc | apply pw_below_drewN | apply below_drew1 | refine below_set ?_ GE207.out) | exact HB.out)) hb); clear HO214; clear BK207; clear HB; have HO214 := n0_; have HO221 := n1_; have BK207 := n2_; have HB := n3_; clear n0_ n1_ n2_ n3_; (try clear hb); (try clear hb2); (try clear hk); (try clear hi); (try clear ho0); obtain ⟨Ao42, co42, eo42⟩ := Kd.R_slice HO214.out; subst eo42; obtain ⟨Ao43, co43, eo43⟩ := Kd.R_slice HO221.out; subst eo43) | ((with_reducible refine gate_callee (f := 16) rfl ?_); refine goesL_ (some 54) rfl rfl Try.func16 (by kernel_rfl) rfl #[.slice Ao42 t212.length co42, .slice Ao43 t219.length co43] rfl (by (try simp only [List.map_toArray, List.map_cons, List.map_nil]); first | done | rfl | (simp only [List.length_drop, List.length_take]; rfl)) ?_; (with_reducible refine (wageofficeref31_Same.calls kj14 _ _ t212 _ _ t219 true _ ?side1 ?side2 ?side3 ?side4 A23.out).mono ?_); (case side1 => repeat (first | exact (Kd.R_reads' HO214.out).2.2 | (with_reducible refine Kd.C_alloc ?_ _) | (with_reducible refine Kd.C_drewN ?_ _) | (with_reducible refine Kd.C_drew ?_))); (case side2 => exact (Kd.R_reads' HO214.out).2.1); (case side3 => repeat (first | exact (Kd.R_reads' HO221.out).2.2 | (with_reducible refine Kd.C_alloc ?_ _) | (with_reducible refine Kd.C_drewN ?_ _) | (with_reducible refine Kd.C_drew ?_))); (case side4 => exact (Kd.R_reads' HO221.out).2.1); rintro e w' ⟨rfl, ⟨nd, rfl⟩⟩; refine ⟨_, rfl, ?_⟩; have hcz44_0 : w41.cell? ⟨gb207, 0, none⟩ = some (.int .i64 a1_0) := (blk_cell BK207.out 0).trans rfl; have hcz44_1 : w41.cell? ⟨gb207, 1, none⟩ = some (.string a1_1) := (blk_cell BK207.out 1).trans rfl; have hcz44_2 : w41.cell? ⟨gb207, 2, none⟩ = some (.string a1_2) := (blk_cell BK207.out 2).trans rfl; have hcz44_3 : w41.cell? ⟨gb207, 3, none⟩ = some (.int .i64 a1_3) := (blk_cell BK207.out 3).trans rfl; have hcz44_4 : w41.cell? ⟨gb207, 4, none⟩ = some (.int .i64 a1_4) := (blk_cell BK207.out 4).trans rfl; have hcz44_5 : w41.cell? ⟨gb207, 5, none⟩ = some (.int .i64 a1_5) := (blk_cell BK207.out 5).trans rfl; have hcz44_6 : w41.cell? ⟨gb207, 6, none⟩ = some (.int .i64 a1_6) := (blk_cell BK207.out 6).trans rfl; have hcz44_7 : w41.cell? ⟨gb207, 7, none⟩ = some (.bool a1_7) := (blk_cell BK207.out 7).trans rfl; have hfz44_0 := blk_frozen BK207.out 0; have hfz44_1 := blk_frozen BK207.out 1; have hfz44_2 := blk_frozen BK207.out 2; have hfz44_3 := blk_frozen BK207.out 3; have hfz44_4 := blk_frozen BK207.out 4; have hfz44_5 := blk_frozen BK207.out 5; have hfz44_6 := blk_frozen BK207.out 6; have hfz44_7 := blk_frozen BK207.out 7) | ((with_reducible refine gate_callee (f := 12) rfl ?_); refine goesL_ (some 59) rfl rfl Try.func12 (by kernel_rfl) rfl #[.slice A0 l0.length c0, .agg #[.int .i64 a1_0, .string a1_1, .string a1_2, .int .i64 a1_3, .int .i64 a1_4, .int .i64 a1_5, .int .i64 a1_6, .bool a1_7]] rfl (by (try simp only [List.map_toArray, List.map_cons, List.map_nil]); first | done | rfl | (simp only [List.length_drop, List.length_take]; rfl)) ?_; (with_reducible refine (orders_Record.calls _ _ l0 a1_0 a1_1 a1_2 a1_3 a1_4 a1_5 a1_6 a1_7 t223 t226 _ ?side1 ?side2 A25.out).mono ?_); (case side1 => repeat (first | exact (Kd.C_below HR0.out (by repeat (first | (with_reducible first | exact HB.out | apply below_alloc | apply pw_below_drewN | apply below_drew1 | refine below_set ?_ GE207.out) | exact HB.out))) | (with_reducible refine Kd.C_alloc ?_ _) | (with_reducible refine Kd.C_drewN ?_ _) | (with_reducible refine Kd.C_drew ?_))); (case side2 => exact HC0.out); rintro e w45 ⟨v224, rfl, ho0, hb⟩; refine ⟨_, rfl, ?_⟩; have n0_ := Aside0.mk (Kd.R_elder' (by (with_reducible repeat (first | apply Kd.R_alloc | apply Kd.R_drewN | apply Kd.R_drew)); exact HO214.out) (Kd.R_base ho0) hb); have n1_ := Aside0.mk (Kd.R_elder' (by (with_reducible repeat (first | apply Kd.R_alloc | apply Kd.R_drewN | apply Kd.R_drew)); exact HO221.out) (Kd.R_base ho0) hb); have n2_ := Aside0.mk (Kd.R_lower (Kd.R_newB (Kd.R_new' (Kd.R_new' ho0 (Kd.R_lt (by (with_reducible repeat (first | apply Kd.R_alloc | apply Kd.R_drewN | apply Kd.R_drew)); exact HO214.out))) (Kd.R_lt (by (with_reducible repeat (first | apply Kd.R_alloc | apply Kd.R_drewN | apply Kd.R_drew)); exact HO221.out))) (g := gb207) (o := .cells #[.int .i64 a1_0, .string a1_1, .string a1_2, .int .i64 a1_3, .int .i64 a1_4, .int .i64 a1_5, .int .i64 a1_6, .bool a1_7] 24 (0, 0)) (by (with_reducible repeat (first | refine blk_drewN ?_ _ | refine blk_drew ?_ | refine blk_alloc ?_ _)); exact BK207.out)) (below_size (by repeat (first | (with_reducible first | exact HB.out | apply below_alloc | apply pw_below_drewN | apply below_drew1 | refine below_set ?_ GE207.out) | exact HB.out)))); have n3_ := Aside0.mk (blk_below (g := gb207) (o := .cells #[.int .i64 a1_0, .string a1_1, .string a1_2, .int .i64 a1_3, .int .i64 a1_4, .int .i64 a1_5, .int .i64 a1_6, .bool a1_7] 24 (0, 0)) (by (with_reducible repeat (first | refine blk_drewN ?_ _ | refine blk_drew ?_ | refine blk_alloc ?_ _)); exact BK207.out) hb); have n4_ := Aside0.mk (below_step (by repeat (first | (with_reducible first | exact HB.out | apply below_alloc | apply pw_below_drewN | apply below_drew1 | refine below_set ?_ GE207.out) | exact HB.out)) hb); clear HO214; clear HO221; clear BK207; clear HB; have HO214 := n0_; have HO221 := n1_; have HO225 := n2_; have BK207 := n3_; have HB := n4_; clear n0_ n1_ n2_ n3_ n4_; (try clear hb); (try clear hb2); (try clear hk); (try clear hi); (try clear ho0); have hcz46_0 : w45.cell? ⟨gb207, 0, none⟩ = some (.int .i64 a1_0) := (blk_cell BK207.out 0).trans rfl; have hcz46_1 : w45.cell? ⟨gb207, 1, none⟩ = some (.string a1_1) := (blk_cell BK207.out 1).trans rfl; have hcz46_2 : w45.cell? ⟨gb207, 2, none⟩ = some (.string a1_2) := (blk_cell BK207.out 2).trans rfl; have hcz46_3 : w45.cell? ⟨gb207, 3, none⟩ = some (.int .i64 a1_3) := (blk_cell BK207.out 3).trans rfl; have hcz46_4 : w45.cell? ⟨gb207, 4, none⟩ = some (.int .i64 a1_4) := (blk_cell BK207.out 4).trans rfl; have hcz46_5 : w45.cell? ⟨gb207, 5, none⟩ = some (.int .i64 a1_5) := (blk_cell BK207.out 5).trans rfl; have hcz46_6 : w45.cell? ⟨gb207, 6, none⟩ = some (.int .i64 a1_6) := (blk_cell BK207.out 6).trans rfl; have hcz46_7 : w45.cell? ⟨gb207, 7, none⟩ = some (.bool a1_7) := (blk_cell BK207.out 7).trans rfl; have hfz46_0 := blk_frozen BK207.out 0; have hfz46_1 := blk_frozen BK207.out 1; have hfz46_2 := blk_frozen BK207.out 2; have hfz46_3 := blk_frozen BK207.out 3; have hfz46_4 := blk_frozen BK207.out 4; have hfz46_5 := blk_frozen BK207.out 5; have hfz46_6 := blk_frozen BK207.out 6; have hfz46_7 := blk_frozen BK207.out 7; obtain ⟨Ao47, co47, eo47⟩ := Kd.R_slice HO225.out; subst eo47) | (go_at_call 17; (with_reducible refine (orders_Open.calls _ _ t223 a2 a3 a4 t227 _ ?side1 ?side2 A37.out).mono ?_); (case side1 => repeat (first | exact (Kd.R_reads' HO225.out).2.2 | (with_reducible refine Kd.C_alloc ?_ _) | (with_reducible refine Kd.C_drewN ?_ _) | (with_reducible refine Kd.C_drew ?_))); (case side2 => exact (Kd.R_reads' HO225.out).2.1); rintro e w48 ⟨v228, rfl, ho0, hb⟩; have n0_ := Aside0.mk (Kd.R_elder' (by (with_reducible repeat (first | apply Kd.R_alloc | apply Kd.R_drewN | apply Kd.R_drew)); exact HO214.out) (Kd.R_base ho0) hb); have n1_ := Aside0.mk (Kd.R_elder' (by (with_reducible repeat (first | apply Kd.R_alloc | apply Kd.R_drewN | apply Kd.R_drew)); exact HO221.out) (Kd.R_base ho0) hb); have n2_ := Aside0.mk (Kd.R_elder' (by (with_reducible repeat (first | apply Kd.R_alloc | apply Kd.R_drewN | apply Kd.R_drew)); exact HO225.out) (Kd.R_base ho0) hb); have n3_ := Aside0.mk (Kd.R_lower (Kd.R_newB (Kd.R_new' (Kd.R_new' (Kd.R_new' ho0 (Kd.R_lt (by (with_reducible repeat (first | apply Kd.R_alloc | apply Kd.R_drewN | apply Kd.R_drew)); exact HO214.out))) (Kd.R_lt (by (with_reducible repeat (first | apply Kd.R_alloc | apply Kd.R_drewN | apply Kd.R_drew)); exact HO221.out))) (Kd.R_lt (by (with_reducible repeat (first | apply Kd.R_alloc | apply Kd.R_drewN | apply Kd.R_drew)); exact HO225.out))) (g := gb207) (o := .cells #[.int .i64 a1_0, .string a1_1, .string a1_2, .int .i64 a1_3, .int .i64 a1_4, .int .i64 a1_5, .int .i64 a1_6, .bool a1_7] 24 (0, 0)) (by (with_reducible repeat (first | refine blk_drewN ?_ _ | refine blk_drew ?_ | refine blk_alloc ?_ _)); exact BK207.out)) (below_size (by repeat (first | (with_reducible first | exact HB.out | apply below_alloc | apply pw_below_drewN | apply below_drew1 | refine below_set ?_ GE207.out) | exact HB.out)))); have n4_ := Aside0.mk (blk_below (g := gb207) (o := .cells #[.int .i64 a1_0, .string a1_1, .string a1_2, .int .i64 a1_3, .int .i64 a1_4, .int .i64 a1_5, .int .i64 a1_6, .bool a1_7] 24 (0, 0)) (by (with_reducible repeat (first | refine blk_drewN ?_ _ | refine blk_drew ?_ | refine blk_alloc ?_ _)); exact BK207.out) hb); have n5_ := Aside0.mk (below_step (by repeat (first | (with_reducible first | exact HB.out | apply below_alloc | apply pw_below_drewN | apply below_drew1 | refine below_set ?_ GE207.out) | exact HB.out)) hb); clear HO214; clear HO221; clear HO225; clear BK207; clear HB; have HO214 := n0_; have HO221 := n1_; have HO225 := n2_; have HO229 := n3_; have BK207 := n4_; have HB := n5_; clear n0_ n1_ n2_ n3_ n4_ n5_; (try clear hb); (try clear hb2); (try clear hk); (try clear hi); (try clear ho0); obtain ⟨Ao49, co49, eo49⟩ := Kd.R_slice HO229.out; subst eo49) | (go_at_call 16; (with_reducible refine (wageofficeref31_Same.calls kj14 _ _ t212 _ _ t227 t230 _ ?side1 ?side2 ?side3 ?side4 A38.out).mono ?_); (case side1 => repeat (first | exact (Kd.R_reads' HO214.out).2.2 | (with_reducible refine Kd.C_alloc ?_ _) | (with_reducible refine Kd.C_drewN ?_ _) | (with_reducible refine Kd.C_drew ?_))); (case side2 => exact (Kd.R_reads' HO214.out).2.1); (case side3 => repeat (first | exact (Kd.R_reads' HO229.out).2.2 | (with_reducible refine Kd.C_alloc ?_ _) | (with_reducible refine Kd.C_drewN ?_ _) | (with_reducible refine Kd.C_drew ?_))); (case side4 => exact (Kd.R_reads' HO229.out).2.1); rintro e w' ⟨rfl, ⟨nd, rfl⟩⟩))
                        go_ret
                        exact ⟨by first | rfl | (simp [errW_none, errW_some] <;> rfl) | (simp [*, errW_none, errW_some] <;> rfl), by repeat (first | (with_reducible first | exact HB.out | apply below_alloc | apply pw_below_drewN | apply below_drew1 | refine below_set ?_ GE207.out) | exact HB.out)⟩
                    · rw [if_neg c27] at H
                      have c27b0 : (t226 == 0) = false := beq_eq_false_iff_ne.mpr c27
                      have c27b1 : (t226 != 0) = true := bne_iff_ne.mpr c27
                      obtain rfl := Option.some.inj H
                      go_wp2_with (first | ((with_reducible refine gate_callee (f := 17) rfl ?_); refine goesL_ (some 45) rfl rfl Try.func17 (by kernel_rfl) rfl #[.slice A0 l0.length c0, .string a2, .int .i64 a3, .int .i64 a4] rfl (by (try simp only [List.map_toArray, List.map_cons, List.map_nil]); first | done | rfl | (simp only [List.length_drop, List.length_take]; rfl)) ?_; (with_reducible refine (orders_Open.calls _ _ l0 a2 a3 a4 t212 _ ?side1 ?side2 A19.out).mono ?_); (case side1 => repeat (first | exact (Kd.C_below HR0.out HB.out) | (with_reducible refine Kd.C_alloc ?_ _) | (with_reducible refine Kd.C_drewN ?_ _) | (with_reducible refine Kd.C_drew ?_))); (case side2 => exact HC0.out); rintro e w50 ⟨v213, rfl, ho0, hb⟩; refine ⟨_, rfl, ?_⟩; have n0_ := Aside0.mk (Kd.R_lower (Kd.R_newB ho0 (g := gb207) (o := .cells #[.int .i64 a1_0, .string a1_1, .string a1_2, .int .i64 a1_3, .int .i64 a1_4, .int .i64 a1_5, .int .i64 a1_6, .bool a1_7] 24 (0, 0)) (by (with_reducible repeat (first | refine blk_drewN ?_ _ | refine blk_drew ?_ | refine blk_alloc ?_ _)); exact BK207.out)) (below_size (by repeat (first | (with_reducible first | exact HB.out | apply below_alloc | apply pw_below_drewN | apply below_drew1 | refine below_set ?_ GE207.out) | exact HB.out)))); have n1_ := Aside0.mk (blk_below (g := gb207) (o := .cells #[.int .i64 a1_0, .string a1_1, .string a1_2, .int .i64 a1_3, .int .i64 a1_4, .int .i64 a1_5, .int .i64 a1_6, .bool a1_7] 24 (0, 0)) (by (with_reducible repeat (first | refine blk_drewN ?_ _ | refine blk_drew ?_ | refine blk_alloc ?_ _)); exact BK207.out) hb); have n2_ := Aside0.mk (below_step (by repeat (first | (with_reducible first | exact HB.out | apply below_alloc | apply pw_below_drewN | apply below_drew1 | refine below_set ?_ GE207.out) | exact HB.out)) hb); clear BK207; clear HB; have HO214 := n0_; have BK207 := n1_; have HB := n2_; clear n0_ n1_ n2_; (try clear hb); (try clear hb2); (try clear hk); (try clear hi); (try clear ho0); have q51 : (x12_14 : Int) ≤ ((l0.length : Int) : Int) := of_decide_eq_true (by first | (with_reducible assumption) | assumption); obtain ⟨i051, hi051, _, hsz51, _⟩ := info_parts info24; have hroom51 : l0.length ≤ c0 := HC0.out; have hC51 : Kd.C k24 _ A0 l0.length l0 := HR0.out; have hcut51 := cut_to (P := Try.prog) 22 24 .i64 Try.underlying22 hi051 A0 l0.length c0 x12_14 (of_decide_eq_true (by first | (with_reducible assumption) | assumption)) q51 hroom51; have hr51 := Kd.C_take (m := (x12_14 : Int).toNat) hC51 (by omega); have hy51 : y215.length = (x12_14 : Int).toNat := (by rw [Ny215.out, List.length_take]; omega); rw [← Ny215.out] at hr51; rw [← hy51] at hcut51; have HR218 := Aside0.mk hr51; have HC218 := Aside0.mk (show y215.length ≤ c0 from by omega); clear hr51 hC51 hroom51 hi051 hsz51; have KY51 := Aside0.mk hy51; clear hy51; replace q51 := eq_true q51) | ((with_reducible refine gate_callee (f := 17) rfl ?_); refine goesL_ (some 53) rfl rfl Try.func17 (by kernel_rfl) rfl #[.slice A0 y215.length c0, .string a2, .int .i64 a3, .int .i64 a4] rfl (by (try simp only [List.map_toArray, List.map_cons, List.map_nil]); first | done | rfl | (simp only [List.length_drop, List.length_take]; rfl)) ?_; (with_reducible refine (orders_Open.calls _ _ y215 a2 a3 a4 t219 _ ?side1 ?side2 A22.out).mono ?_); (case side1 => repeat (first | exact (Kd.C_below HR218.out HB.out) | (with_reducible refine Kd.C_alloc ?_ _) | (with_reducible refine Kd.C_drewN ?_ _) | (with_reducible refine Kd.C_drew ?_))); (case side2 => exact HC218.out); rintro e w52 ⟨v220, rfl, ho0, hb⟩; refine ⟨_, rfl, ?_⟩; have n0_ := Aside0.mk (Kd.R_elder' (by (with_reducible repeat (first | apply Kd.R_alloc | apply Kd.R_drewN | apply Kd.R_drew)); exact HO214.out) (Kd.R_base ho0) hb); have n1_ := Aside0.mk (Kd.R_lower (Kd.R_newB (Kd.R_new' ho0 (Kd.R_lt (by (with_reducible repeat (first | apply Kd.R_alloc | apply Kd.R_drewN | apply Kd.R_drew)); exact HO214.out))) (g := gb207) (o := .cells #[.int .i64 a1_0, .string a1_1, .string a1_2, .int .i64 a1_3, .int .i64 a1_4, .int .i64 a1_5, .int .i64 a1_6, .bool a1_7] 24 (0, 0)) (by (with_reducible repeat (first | refine blk_drewN ?_ _ | refine blk_drew ?_ | refine blk_alloc ?_ _)); exact BK207.out)) (below_size (by repeat (first | (with_reducible first | exact HB.out | apply below_alloc | apply pw_below_drewN | apply below_drew1 | refine below_set ?_ GE207.out) | exact HB.out)))); have n2_ := Aside0.mk (blk_below (g := gb207) (o := .cells #[.int .i64 a1_0, .string a1_1, .string a1_2, .int .i64 a1_3, .int .i64 a1_4, .int .i64 a1_5, .int .i64 a1_6, .bool a1_7] 24 (0, 0)) (by (with_reducible repeat (first | refine blk_drewN ?_ _ | refine blk_drew ?_ | refine blk_alloc ?_ _)); exact BK207.out) hb); have n3_ := Aside0.mk (below_step (by repeat (first | (with_reducible first | exact HB.out | apply below_alloc | apply pw_below_drewN | apply below_drew1 | refine below_set ?_ GE207.out) | exact HB.out)) hb); clear HO214; clear BK207; clear HB; have HO214 := n0_; have HO221 := n1_; have BK207 := n2_; have HB := n3_; clear n0_ n1_ n2_ n3_; (try clear hb); (try clear hb2); (try clear hk); (try clear hi); (try clear ho0); obtain ⟨Ao53, co53, eo53⟩ := Kd.R_slice HO214.out; subst eo53; obtain ⟨Ao54, co54, eo54⟩ := Kd.R_slice HO221.out; subst eo54) | ((with_reducible refine gate_callee (f := 16) rfl ?_); refine goesL_ (some 54) rfl rfl Try.func16 (by kernel_rfl) rfl #[.slice Ao53 t212.length co53, .slice Ao54 t219.length co54] rfl (by (try simp only [List.map_toArray, List.map_cons, List.map_nil]); first | done | rfl | (simp only [List.length_drop, List.length_take]; rfl)) ?_; (with_reducible refine (wageofficeref31_Same.calls kj14 _ _ t212 _ _ t219 true _ ?side1 ?side2 ?side3 ?side4 A23.out).mono ?_); (case side1 => repeat (first | exact (Kd.R_reads' HO214.out).2.2 | (with_reducible refine Kd.C_alloc ?_ _) | (with_reducible refine Kd.C_drewN ?_ _) | (with_reducible refine Kd.C_drew ?_))); (case side2 => exact (Kd.R_reads' HO214.out).2.1); (case side3 => repeat (first | exact (Kd.R_reads' HO221.out).2.2 | (with_reducible refine Kd.C_alloc ?_ _) | (with_reducible refine Kd.C_drewN ?_ _) | (with_reducible refine Kd.C_drew ?_))); (case side4 => exact (Kd.R_reads' HO221.out).2.1); rintro e w' ⟨rfl, ⟨nd, rfl⟩⟩; refine ⟨_, rfl, ?_⟩; have hcz55_0 : w52.cell? ⟨gb207, 0, none⟩ = some (.int .i64 a1_0) := (blk_cell BK207.out 0).trans rfl; have hcz55_1 : w52.cell? ⟨gb207, 1, none⟩ = some (.string a1_1) := (blk_cell BK207.out 1).trans rfl; have hcz55_2 : w52.cell? ⟨gb207, 2, none⟩ = some (.string a1_2) := (blk_cell BK207.out 2).trans rfl; have hcz55_3 : w52.cell? ⟨gb207, 3, none⟩ = some (.int .i64 a1_3) := (blk_cell BK207.out 3).trans rfl; have hcz55_4 : w52.cell? ⟨gb207, 4, none⟩ = some (.int .i64 a1_4) := (blk_cell BK207.out 4).trans rfl; have hcz55_5 : w52.cell? ⟨gb207, 5, none⟩ = some (.int .i64 a1_5) := (blk_cell BK207.out 5).trans rfl; have hcz55_6 : w52.cell? ⟨gb207, 6, none⟩ = some (.int .i64 a1_6) := (blk_cell BK207.out 6).trans rfl; have hcz55_7 : w52.cell? ⟨gb207, 7, none⟩ = some (.bool a1_7) := (blk_cell BK207.out 7).trans rfl; have hfz55_0 := blk_frozen BK207.out 0; have hfz55_1 := blk_frozen BK207.out 1; have hfz55_2 := blk_frozen BK207.out 2; have hfz55_3 := blk_frozen BK207.out 3; have hfz55_4 := blk_frozen BK207.out 4; have hfz55_5 := blk_frozen BK207.out 5; have hfz55_6 := blk_frozen BK207.out 6; have hfz55_7 := blk_frozen BK207.out 7) | ((with_reducible refine gate_callee (f := 12) rfl ?_); refine goesL_ (some 59) rfl rfl Try.func12 (by kernel_rfl) rfl #[.slice A0 l0.length c0, .agg #[.int .i64 a1_0, .string a1_1, .string a1_2, .int .i64 a1_3, .int .i64 a1_4, .int .i64 a1_5, .int .i64 a1_6, .bool a1_7]] rfl (by (try simp only [List.map_toArray, List.map_cons, List.map_nil]); first | done | rfl | (simp only [List.length_drop, List.length_take]; rfl)) ?_; (with_reducible refine (orders_Record.calls _ _ l0 a1_0 a1_1 a1_2 a1_3 a1_4 a1_5 a1_6 a1_7 t223 t226 _ ?side1 ?side2 A25.out).mono ?_); (case side1 => repeat (first | exact (Kd.C_below HR0.out (by repeat (first | (with_reducible first | exact HB.out | apply below_alloc | apply pw_below_drewN | apply below_drew1 | refine below_set ?_ GE207.out) | exact HB.out))) | (with_reducible refine Kd.C_alloc ?_ _) | (with_reducible refine Kd.C_drewN ?_ _) | (with_reducible refine Kd.C_drew ?_))); (case side2 => exact HC0.out); rintro e w56 ⟨v224, rfl, ho0, hb⟩; refine ⟨_, rfl, ?_⟩; have n0_ := Aside0.mk (Kd.R_elder' (by (with_reducible repeat (first | apply Kd.R_alloc | apply Kd.R_drewN | apply Kd.R_drew)); exact HO214.out) (Kd.R_base ho0) hb); have n1_ := Aside0.mk (Kd.R_elder' (by (with_reducible repeat (first | apply Kd.R_alloc | apply Kd.R_drewN | apply Kd.R_drew)); exact HO221.out) (Kd.R_base ho0) hb); have n2_ := Aside0.mk (Kd.R_lower (Kd.R_newB (Kd.R_new' (Kd.R_new' ho0 (Kd.R_lt (by (with_reducible repeat (first | apply Kd.R_alloc | apply Kd.R_drewN | apply Kd.R_drew)); exact HO214.out))) (Kd.R_lt (by (with_reducible repeat (first | apply Kd.R_alloc | apply Kd.R_drewN | apply Kd.R_drew)); exact HO221.out))) (g := gb207) (o := .cells #[.int .i64 a1_0, .string a1_1, .string a1_2, .int .i64 a1_3, .int .i64 a1_4, .int .i64 a1_5, .int .i64 a1_6, .bool a1_7] 24 (0, 0)) (by (with_reducible repeat (first | refine blk_drewN ?_ _ | refine blk_drew ?_ | refine blk_alloc ?_ _)); exact BK207.out)) (below_size (by repeat (first | (with_reducible first | exact HB.out | apply below_alloc | apply pw_below_drewN | apply below_drew1 | refine below_set ?_ GE207.out) | exact HB.out)))); have n3_ := Aside0.mk (blk_below (g := gb207) (o := .cells #[.int .i64 a1_0, .string a1_1, .string a1_2, .int .i64 a1_3, .int .i64 a1_4, .int .i64 a1_5, .int .i64 a1_6, .bool a1_7] 24 (0, 0)) (by (with_reducible repeat (first | refine blk_drewN ?_ _ | refine blk_drew ?_ | refine blk_alloc ?_ _)); exact BK207.out) hb); have n4_ := Aside0.mk (below_step (by repeat (first | (with_reducible first | exact HB.out | apply below_alloc | apply pw_below_drewN | apply below_drew1 | refine below_set ?_ GE207.out) | exact HB.out)) hb); clear HO214; clear HO221; clear BK207; clear HB; have HO214 := n0_; have HO221 := n1_; have HO225 := n2_; have BK207 := n3_; have HB := n4_; clear n0_ n1_ n2_ n3_ n4_; (try clear hb); (try clear hb2); (try clear hk); (try clear hi); (try clear ho0)))
                      go_ret
                      exact ⟨by first | rfl | (simp [errW_none, errW_some] <;> rfl) | (simp [*, errW_none, errW_some] <;> rfl), by repeat (first | (with_reducible first | exact HB.out | apply below_alloc | apply pw_below_drewN | apply below_drew1 | refine below_set ?_ GE207.out) | exact HB.out)⟩
                  · replace c26 := Bool.eq_false_iff.mpr c26
                    subst c26
                    have H1 : (none) = some r := by rw [if_neg (show ¬ (false = true) by decide)] at H; exact H
                    clear H
                    have H := H1
                    clear H1
                    exact absurd H (by simp)
                · replace c24 := Bool.eq_false_iff.mpr c24
                  subst c24
                  have H1 : (none) = some r := by rw [if_neg (show ¬ (false = true) by decide)] at H; exact H
                  clear H
                  have H := H1
                  clear H1
                  exact absurd H (by simp)
              · rw [if_neg c21] at H
                exact absurd H (by simp)
            · rw [if_neg c20] at H
              exact absurd H (by simp)
end Go.Proofs.Ytgbcihbnaecejaa.Q

namespace Go.Proofs.Ytgbcihbnaecejaa.Q
open Go Go.RowKit Go.Proofs.YtgbcihbnaecejaaW.PrintWords Go.Proofs.YtgbcihbnaecejaaW.PrintLast Go.Proofs.YtgbcihbnaecejaaW.PrintMore
set_option linter.unusedVariables false
set_option linter.unusedSimpArgs false
theorem rsame_loop (l : List Od) (hl : l.length ≤ 1000) : ∀ (d i : Nat), l.length - i = d → i ≤ l.length → Ev (fun k => wageofficeref31_Same.l0 k l l (i : Int)) true := by
  intro d
  induction d with
  | zero =>
    intro i hd hi
    refine Ev.step (f := fun _ => some true) (fun k => ?_) (Ev.now _)
    simp only [wageofficeref31_Same.l0]
    rw [if_neg (by omega)]
  | succ d ih =>
    intro i hd hi
    have w1 : wrap64 ((i : Int) + 1) = ((i + 1 : Nat) : Int) := by unfold wrap64; omega
    refine Ev.step (fun k => ?_) (ih (i + 1) (by omega) (by omega))
    simp only [wageofficeref31_Same.l0]
    rw [if_pos (by omega), if_pos (by omega), if_pos (by omega), if_neg (by simp), w1]
theorem rsame (l : List Od) (hl : l.length ≤ 1000) : Ev (fun k => wageofficeref31_Same.f k l l) true := by
  refine Ev.congr (fun k => ?_) (rsame_loop l hl _ 0 rfl (Nat.zero_le _))
  simp only [wageofficeref31_Same.f]
  rw [if_pos trivial]
  rfl
theorem drop_odAt {l : List Od} {i : Nat} (h : i < l.length) : l.drop i = odAt l i :: l.drop (i + 1) := by
  rw [List.drop_eq_getElem_cons h]
  congr 1
  unfold odAt
  rw [List.getD_eq_getElem?_getD, List.getElem?_eq_getElem h]
  rfl
theorem openO_len (l : List Od) (p : ByteArray) (m kn : Int) : (openO l p m kn).length ≤ 400 := by
  unfold openO
  cases hv : valid l with
  | false => simp
  | true =>
    rw [if_pos rfl, sortO_length]
    exact Nat.le_trans (List.length_filter_le _ _) (Nat.le_trans (cur_len p kn l) ((valid_iff l).1 hv).1)
theorem recO_ok {l : List Od} {o : Od} (h : (recO l o).2 = 0) : (recO l o).1 = l ++ [o] ∧ valid (l ++ [o]) = true ∧ valid l = true := by
  unfold recO at h ⊢
  by_cases h1 : valid l = true ∧ formedOk o = true
  · rw [if_pos h1] at h ⊢
    by_cases h2 : lastLe l o = true
    · rw [if_pos h2] at h ⊢
      by_cases h3 : sameParties l o = true
      · rw [if_pos h3] at h ⊢
        by_cases h4 : valid (l ++ [o]) = true
        · rw [if_pos h4]
          exact ⟨rfl, h4, h1.1⟩
        · rw [if_neg h4] at h; simp at h
      · rw [if_neg h3] at h; simp at h
    · rw [if_neg h2] at h; simp at h
  · rw [if_neg h1] at h; simp at h
end Go.Proofs.Ytgbcihbnaecejaa.Q

namespace Go.Proofs.Ytgbcihbnaecejaa.Q
open Go Go.RowKit Go.Proofs.YtgbcihbnaecejaaW.PrintWords Go.Proofs.YtgbcihbnaecejaaW.PrintLast Go.Proofs.YtgbcihbnaecejaaW.PrintMore
set_option linter.unusedVariables false
set_option linter.unusedSimpArgs false
theorem openO_take {l : List Od} (h : valid l = true) (p : ByteArray) (m kn : Int) (n : Nat) (hn : ∀ o ∈ l.drop n, kn < o.f4) : openO (l.take n) p m kn = openO l p m kn := by
  unfold openO
  rw [if_pos (valid_take h n), if_pos h]
  have := cur_late p kn (l.take n) (l.drop n) hn
  rw [List.take_append_drop] at this
  rw [this]
theorem openO_rec {l : List Od} {o : Od} (h : valid (l ++ [o]) = true) (h' : valid l = true) (p : ByteArray) (m kn : Int) (hn : kn < o.f4) : openO (l ++ [o]) p m kn = openO l p m kn := by
  unfold openO
  rw [if_pos h, if_pos h', cur_late p kn l [o] (fun x hx => by rw [List.mem_singleton.1 hx]; exact hn)]
theorem clocks_j2 (l : List Od) (y : Od) (p : ByteArray) (m kn : Int) (hv : valid l = true) (n : Nat) (hn : n ≤ l.length) (hd : ∀ o ∈ l.drop n, kn < o.f4) : Ev (fun k => wageofficelaw31_OrdersClocks.j2 k l p m kn true (n : Int) y.f0 y.f1 y.f2 y.f3 y.f4 y.f5 y.f6 y.f7) true := by
  obtain ⟨K, hK⟩ := rsame (openO l p m kn) (Nat.le_trans (openO_len l p m kn) (by omega))
  refine ⟨K + 1, fun k hk => ?_⟩
  obtain ⟨q, rfl⟩ : ∃ q, k = q + 1 := ⟨k - 1, by omega⟩
  have e := hK q (by omega)
  dsimp only at e
  simp only [wageofficelaw31_OrdersClocks.j2, orders_Open.f, orders_Record.f, Option.bind_some]
  rw [if_pos (by omega), if_pos (by omega), Int.toNat_natCast, openO_take hv p m kn n hd, e]
  simp only [Option.bind_some]
  rw [if_pos trivial, if_pos trivial]
  by_cases h2 : (recO l ⟨y.f0, y.f1, y.f2, y.f3, y.f4, y.f5, y.f6, y.f7⟩).2 = 0
  · rw [if_pos h2]
    by_cases h3 : y.f4 ≤ kn
    · rw [if_pos h3]
    · rw [if_neg h3]
      obtain ⟨e1, e2, e3⟩ := recO_ok h2
      rw [e1, openO_rec e2 e3 p m kn (by show kn < y.f4; omega), e]
      rfl
  · rw [if_neg h2]
theorem clocks_loop (l : List Od) (y : Od) (p : ByteArray) (m kn : Int) (hv : valid l = true) : ∀ (d i : Nat), l.length - i = d → i ≤ l.length → Ev (fun k => wageofficelaw31_OrdersClocks.l0 k l p m kn true (i : Int) y.f0 y.f1 y.f2 y.f3 y.f4 y.f5 y.f6 y.f7) true := by
  obtain ⟨hl, g⟩ := (valid_iff l).1 hv
  intro d
  induction d with
  | zero =>
    intro i hd hi
    obtain rfl : i = l.length := by omega
    refine Ev.step (fun k => ?_) (clocks_j2 l y p m kn hv l.length (Nat.le_refl _) (by simp))
    simp only [wageofficelaw31_OrdersClocks.l0]
    rw [if_neg (by omega)]
  | succ d ih =>
    intro i hd hi
    have hlt : i < l.length := by omega
    have w1 : wrap64 ((i : Int) + 1) = ((i + 1 : Nat) : Int) := by unfold wrap64; omega
    by_cases hk : (odAt l i).f4 ≤ kn
    · refine Ev.step (fun k => ?_) (ih (i + 1) (by omega) (by omega))
      simp only [wageofficelaw31_OrdersClocks.l0]
      rw [if_pos (by omega), if_pos (by omega), rd_at, if_pos hk, w1]
    · refine Ev.step (fun k => ?_) (clocks_j2 l y p m kn hv i hi (fun x hx => ?_))
      · simp only [wageofficelaw31_OrdersClocks.l0]
        rw [if_pos (by omega), if_pos (by omega), rd_at, if_neg hk]
      · have h1 : (l.drop i).Pairwise (fun a b => a.f4 ≤ b.f4) := List.Pairwise.sublist (List.drop_sublist _ _) g.rising
        rw [drop_odAt hlt] at hx h1
        rcases List.mem_cons.1 hx with e | hx
        · rw [e]; omega
        · have := (List.pairwise_cons.1 h1).1 x hx
          omega
theorem OrdersClocks_pure (l0 : List Od) (y1 : Od) (a2 : ByteArray) (a3 a4 : Int) (ok0 : ∀ y ∈ l0, ok24 y) (hm0 : l0.length ≤ maxLen) (ok1 : ok24 y1) (ok2 : a2.size ≤ maxLen) (ok3 : (Lit.int .i64 a3).wf = true) (ok4 : (Lit.int .i64 a4).wf = true) :
    Ev (fun k => wageofficelaw31_OrdersClocks.f k l0 y1.f0 y1.f1 y1.f2 y1.f3 y1.f4 y1.f5 y1.f6 y1.f7 a2 a3 a4) true := by
  have jt : Ev (fun k => wageofficelaw31_OrdersClocks.j0 k l0 a2 a3 a4 true true y1.f0 y1.f1 y1.f2 y1.f3 y1.f4 y1.f5 y1.f6 y1.f7) true := Ev.step (f := fun _ => some true) (fun k => by simp only [wageofficelaw31_OrdersClocks.j0]; rw [if_pos trivial]) (Ev.now _)
  by_cases hs : (l0.length : Int) ≤ 403
  · cases hv : valid l0 with
    | false =>
      refine Ev.congr (fun k => ?_) jt
      simp only [wageofficelaw31_OrdersClocks.f, head31_true, wageofficelaw31_short.f, wageofficeref31_Valid.f, hv, Option.bind_some]
      rw [if_pos (decide_eq_true hs)]
      rfl
    | true =>
      refine Ev.congr (fun k => ?_) (f := fun k => wageofficelaw31_OrdersClocks.j0 k l0 a2 a3 a4 true false y1.f0 y1.f1 y1.f2 y1.f3 y1.f4 y1.f5 y1.f6 y1.f7) ?_
      · simp only [wageofficelaw31_OrdersClocks.f, head31_true, wageofficelaw31_short.f, wageofficeref31_Valid.f, hv, Option.bind_some]
        rw [if_pos (decide_eq_true hs)]
        rfl
      · refine Ev.step (fun k => ?_) (clocks_loop l0 y1 a2 a3 a4 hv _ 0 rfl (Nat.zero_le _))
        simp only [wageofficelaw31_OrdersClocks.j0]
        rw [if_neg (by simp)]
        rfl
  · refine Ev.congr (fun k => ?_) jt
    simp only [wageofficelaw31_OrdersClocks.f, head31_true, wageofficelaw31_short.f, Option.bind_some]
    rw [if_neg (by simpa using hs)]
end Go.Proofs.Ytgbcihbnaecejaa.Q

namespace Go.Proofs.Ytgbcihbnaecejaa.ordersClocks
open Go.ChangeShapes Go.WideShapes Go.ChangeAt Go.RowKit
open Go.ChangeMaps (open_string shut_string)
open Go.Proofs.YtgbcihbnaecejaaW.PrintWords Go.Proofs.YtgbcihbnaecejaaW.PrintLast Go.Proofs.Ytgbcihbnaecejaa.Q
set_option linter.unusedVariables false
theorem own : ownKnob Try.prog.godebug = none := by kernel_rfl
theorem laidOut : laidOutB Try.prog = true := by kernel_rfl
set_option maxRecDepth 100000 in
theorem lifted (os : Os) (started : os.Started) (H : Type) (enc : TypeId × Value → H) :
    ReturnsInHanded {} Try.checked os 4 .any (Rows.ordersClocksSpec.pre6 enc Try.prog Try.f4 Rows.ordersClocksRow.domain false) (Rows.ordersClocksSpec.post enc Try.prog Try.f4 false true false false) := by
  refine returnsInHanded_of_change_sized (C := Try.checked) own started (by kernel_rfl) Try.func4
    (ChangeSpec.witness6 (enc := enc) (C := Try.checked) false ⟨#[], #[.slice none 0 0, .agg #[.int .i64 0, .string ByteArray.empty, .string ByteArray.empty, .int .i64 0, .int .i64 0, .int .i64 0, .int .i64 0, .bool false], .string ByteArray.empty, .int .i64 0, .int .i64 0], []⟩ 8 (by kernel_rfl) (by kernel_rfl) (by kernel_rfl) (by kernel_rfl)) ?_
  intro W base args ds gs before hval0 hW hcnd hsz0 _
  have hval : ∀ (j : Nat) t v, Try.f4.params[j]? = some t → args[j]? = some v → Value.okWide Try.prog W .any base t v := hval0
  have hW' := hW
  obtain ⟨p, q, hA0, hV, rfl, hfz, hnd⟩ := hW
  have hA : DataW.TrodAll enc Try.prog W 0 (fun _ => true) true Try.f4.params.toList args.toList ds p := hA0
  rw [Try.params4] at hA hval
  obtain ⟨v0, vs0, d0, ds0, p0, q0, hargs, rfl, rfl, h0, r0⟩ := trodAll_cons hA
  obtain ⟨v1, vs1, d1, ds1, p1, q1, rfl, rfl, rfl, h1, r1⟩ := trodAll_cons r0
  obtain ⟨v2, vs2, d2, ds2, p2, q2, rfl, rfl, rfl, h2, r2⟩ := trodAll_cons r1
  obtain ⟨v3, vs3, d3, ds3, p3, q3, rfl, rfl, rfl, h3, r3⟩ := trodAll_cons r2
  obtain ⟨v4, vs4, d4, ds4, p4, q4, rfl, rfl, rfl, h4, r4⟩ := trodAll_cons r3
  obtain ⟨rfl, rfl, rfl⟩ := trodAll_nil r4
  obtain rfl : args = #[v0, v1, v2, v3, v4] := by cases args; simp_all
  obtain ⟨rfl, rfl⟩ := trodVars_none hV
  have k0 := h0
  have lt0 : ∀ x ∈ p0, x.block < W.heap.size := by obtain ⟨m, hm⟩ := k0; exact DataW.trod_lt m _ _ _ hm
  obtain ⟨A0, l0, c0, rfl, hc0, hr0, ok0, hm0⟩ := open_row Try.underlying22 (by kernel_rfl) opens24 (hval 0 22 v0 rfl rfl) h0
  have k1 := h1
  have lt1 : ∀ x ∈ p1, x.block < W.heap.size := by obtain ⟨m, hm⟩ := k1; exact DataW.trod_lt m _ _ _ hm
  obtain ⟨cs1, y1, rfl, K1, ok1⟩ := open_rec Try.underlying24 opens24 (hval 1 24 v1 rfl rfl) h1
  have K1' := k24_openR K1
  obtain ⟨rfl⟩ := K1'
  obtain ⟨a2, rfl, rfl, rfl, ok2⟩ := open_string Try.underlying9 (hval 2 9 v2 rfl rfl) h2
  obtain ⟨a3, rfl, rfl, rfl, ok3⟩ := open_int Try.underlying3 (hval 3 3 v3 rfl rfl) h3
  obtain ⟨a4, rfl, rfl, rfl, ok4⟩ := open_int Try.underlying3 (hval 4 3 v4 rfl rfl) h4
  clear hA0 hval0 hsz0
  obtain ⟨k, hP⟩ := (OrdersClocks_pure l0 y1 a2 a3 a4 ok0 hm0 ok1 ok2 ok3 ok4).rounds
  refine (wageofficelaw31_OrdersClocks.calls k A0 c0 l0 y1.f0 y1.f1 y1.f2 y1.f3 y1.f4 y1.f5 y1.f6 y1.f7 a2 a3 a4 true W hr0 hc0 hP).mono fun e W' ⟨he, bel0⟩ => ?_
  have bel : Below W.heap.size W W' := bel0
  subst he
  exact ⟨_, rfl, _, _, _, [], _, [], hW', trodAll_mk1 (shut_bool Try.underlying4 _), (trodAll_cons_mk (Below.trod laidOut (by kernel_rfl) (of_decide_eq_true (by kernel_rfl)) k0 bel lt0) (trodAll_cons_mk (Below.trod laidOut (by kernel_rfl) (of_decide_eq_true (by kernel_rfl)) k1 bel lt1) (trodAll_cons_mk (shut_string Try.underlying9 ok2) (trodAll_cons_mk (shut_int Try.underlying3 ok3) (trodAll_cons_mk (shut_int Try.underlying3 ok4) trodAll_mk0))))), rfl, bel.frame _, fun h => by cases h⟩
theorem over : Rows.ordersClocksRow.holds Try.pinned (OpenSpec.ofChange Rows.ordersClocksSpec) :=
  OpenClaim.holds_of_wide 4 Try.f4 rfl rfl rfl rfl rfl rfl rfl ⟨rfl, rfl, rfl, rfl, rfl⟩ rfl rfl rfl rfl rfl (by kernel_rfl) Try.func4 (by kernel_rfl)
    (of_decide_eq_true (by kernel_rfl)) (by unfold Func.isWrapper; first | (rw [if_pos (by decide +kernel)]; kernel_rfl) | (rw [if_neg (by decide +kernel)]; exact ⟨rfl, rfl⟩))
    (fun os started H enc _ => lifted os started H enc)
theorem proved : Rows.OrdersClocksSaid := over
end Go.Proofs.Ytgbcihbnaecejaa.ordersClocks
namespace Go.Proofs.Ytgbcihbnaecejaa
theorem ordersClocks_holds : Rows.OrdersClocksSaid := ordersClocks.proved
end Go.Proofs.Ytgbcihbnaecejaa
