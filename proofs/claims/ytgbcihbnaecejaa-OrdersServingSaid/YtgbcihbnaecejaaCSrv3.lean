/- For any list, ranks do not decrease in the result, and numbers increase within a rank; every argument of these types
   The walk of the law's code and its plain law (merged by wip/tools/trim.py out of own texts and of texts that the kit's printer wrote). -/
import Derived.Test.YtgbcihbnaecejaaCSrv2
import Derived.Maps.AppendAt
import Derived.WalkSpells
import Derived.Deep.QuietTactic
import Derived.BigQuiet
import Derived.Deep.RegionLaw
import Derived.Deep.RegionWith
import Derived.Test.YtgbcihbnaecejaaRows
import Derived.WalkKit
import Derived.ProofKit
import Derived.OpenShut
import Derived.ShutString
import Derived.ChangeOld
import Derived.Below
import Derived.SizedLaws
namespace Go.Proofs.Ytgbcihbnaecejaa.Q
open Go Go.RowKit Go.Proofs.YtgbcihbnaecejaaW.PrintWords Go.Proofs.YtgbcihbnaecejaaW.PrintLast Go.Proofs.YtgbcihbnaecejaaW.PrintMore
set_option linter.unusedVariables false
set_option linter.unusedSimpArgs false
theorem clone_od.nil (c0 : Nat) (w : World) :
    Calls Try.prog 23 #[.slice none 0 c0] w fun e w' => ∃ v0_ : Value, e = .returned v0_ ∧ Kd.R k24 24 w' w.heap.size (fun _ => True) v0_ [] ∧ Below w.heap.size w w' := by
  have hq := fun (W : World) => Lib.run_eql_slice_nil W 22 24 none 0 c0 0 0 Try.underlying22
  go_enter Try.func23, Try.ntmps23
  go_wp2
  go_ret
  exact ⟨_, rfl, Kd.R_nil _ _ _ _ _, Below.refl _ _⟩
set_option maxHeartbeats 1000000 in
theorem clone_od.some_ (A0 : Addr) (c0 : Nat) (l0 : List Od) (w : World) (hr0 : Kd.C k24 w (some A0) l0.length l0) (hc0 : l0.length ≤ c0) (hl : l0.length < 1759218604441) :
    Calls Try.prog 23 #[.slice (some A0) l0.length c0] w fun e w' => ∃ v0_ : Value, e = .returned v0_ ∧ Kd.R k24 24 w' w.heap.size (fun _ => True) v0_ l0 ∧ Below w.heap.size w w' := by
  have HR0 := Aside0.mk hr0
  have HC0 := Aside0.mk hc0
  have LM := Aside0.mk hl
  clear hr0 hc0 hl
  have hq := fun (W : World) => Lib.run_eql_slice_nil W 22 24 (some A0) l0.length c0 0 0 Try.underlying22
  have HB := Aside0.mk (Below.refl w.heap.size w)
  go_enter Try.func23, Try.ntmps23
  go_wp2_with (first | ((with_reducible refine gate_dst (N := 5) rfl ?_); refine Kd.R_lit k24 w.heap.size 24 ?hg (N := 5) ?hd (w0 := w) (xs := ([] : List Od)) (inner := []) (ok := fun _ => True) (okp := fun _ => True) ?hr ?hp (fun _ hk => hk) trivial (Below.refl _ _) (Nat.le_refl _) (by simp) ?_; (case hd => rfl); (case hg => rfl); (case hr => first | (go_simp; done) | (go_simp; rfl)); (case hp => exact Reps.none _ _); intro v1 w1 ho hb hg hat; have HO := Aside0.mk ho; clear HB; have HB := Aside0.mk hb; clear ho hb hg hat) | ((with_reducible refine gate_builtin (b := .append) (xs := #[.tmp 5, .tmp 6]) rfl ?_); at_builtin; refine Kd.R_append_rows k24 (w0 := w) w.heap.size rfl (.tmp 5) (.tmp 6) 22 24 (.agg #[(.int .i64 0), (.string ⟨#[]⟩), (.string ⟨#[]⟩), (.int .i64 0), (.int .i64 0), (.int .i64 0), (.int .i64 0), (.bool false)]) 80 rfl Try.underlying22 info24 rfl (by decide) (by omega) v1 ([] : List Od) l0 _ _ _ (fun _ => True) (fun _ => False) rfl rfl ?aO ?aR (fun _ _ h => h) (fun _ h => h.elim) ?aF ?aB ?aS ?aL ?_; (case aR => exact Kd.C_below HR0.out HB.out); (case aB => exact HB.out); (case aF => exact (fun _ _ => trivial)); (case aO => exact HO.out); (case aS => exact below_size HB.out); (case aL => have := LM.out; simp only [List.length_nil]; omega); intro v2 w2 ho hb hg hat; rw [List.nil_append] at ho; clear HO HB; have HO := Aside0.mk ho; have HB := Aside0.mk hb; clear ho hb hg hat))
  go_ret
  exact ⟨_, rfl, HO.out, HB.out⟩
theorem clone_od (A0 : Option Addr) (c0 : Nat) (l0 : List Od) (w : World) (hr0 : Kd.C k24 w A0 l0.length l0) (hc0 : l0.length ≤ c0) (hl : l0.length < 1759218604441) :
    Calls Try.prog 23 #[.slice A0 l0.length c0] w fun e w' => ∃ v0_ : Value, e = .returned v0_ ∧ Kd.R k24 24 w' w.heap.size (fun _ => True) v0_ l0 ∧ Below w.heap.size w w' := by
  cases A0 with
  | none =>
    have h0 : l0 = [] := by
      rcases Nat.eq_zero_or_pos l0.length with h | h
      · exact List.eq_nil_of_length_eq_zero h
      · obtain ⟨ad, h1, _⟩ := hr0.2.2 h
        cases h1
    subst h0
    exact clone_od.nil c0 w
  | some A0 => exact clone_od.some_ A0 c0 l0 w hr0 hc0 hl
def recO (l : List Od) (o : Od) : List Od × Int :=
  if valid l = true ∧ formedOk o = true then (if lastLe l o = true then (if sameParties l o = true then (if valid (l ++ [o]) = true then (l ++ [o], 0) else ([], 2)) else ([], 311)) else ([], 6)) else ([], 1)
def clash (o x : Od) : Bool := decide (x.f0 = o.f0 ∧ ¬ (x.f1 = o.f1 ∧ x.f2 = o.f2))
theorem any_clash (l : List Od) (o : Od) : l.any (clash o) = !sameParties l o := by
  unfold sameParties
  rw [Bool.eq_iff_iff, List.any_eq_true, Bool.not_eq_true', ← Bool.not_eq_true, List.all_eq_true]
  constructor
  · rintro ⟨x, hx, hc⟩ h
    have h1 := of_decide_eq_true hc
    exact h1.2 (of_decide_eq_true (h x hx) h1.1)
  · intro h
    refine Classical.byContradiction fun hn => h fun x hx => decide_eq_true fun h0 => Classical.byContradiction fun h1 => hn ⟨x, hx, decide_eq_true ⟨h0, h1⟩⟩
set_option maxHeartbeats 2000000 in
theorem clash_pred (o : Od) (B : Nat) (w : World) (hb : w.heap[B]? = some (.cells #[.int .i64 o.f0, .string o.f1, .string o.f2, .int .i64 o.f3, .int .i64 o.f4, .int .i64 o.f5, .int .i64 o.f6, .bool o.f7] 24 (0, 0))) :
    PredBelow Try.prog 22 #[.pointer (some ⟨B, 0, none⟩)] (fun x => .agg (odEnc x).toArray) (clash o) w := fun W x hbl => by
  have h1 := blk_below hb hbl
  have hB : B < w.heap.size := (Array.getElem?_eq_some_iff.1 hb).1
  have hBW : B < W.heap.size := Nat.lt_of_lt_of_le hB hbl.size
  obtain ⟨v0, v1, v2, -, -, -, -, -⟩ := od_blk h1
  have HB := Lib.hid hbl
  clear h1 hbl hb
  show Calls Try.prog 22 #[.agg #[.int .i64 x.f0, .string x.f1, .string x.f2, .int .i64 x.f3, .int .i64 x.f4, .int .i64 x.f5, .int .i64 x.f6, .bool x.f7], .pointer (some ⟨B, 0, none⟩)] W _
  by_cases h0 : x.f0 = o.f0
  · by_cases h1 : x.f1 = o.f1
    · by_cases h2 : x.f2 = o.f2
      · have HR := Lib.hid (show clash o x = false from decide_eq_false (fun h => h.2 ⟨h1, h2⟩))
        rw [h0, h1, h2]
        clear h0 h1 h2
        go_enter Try.func22, Try.ntmps22
        go_wp2
        go_ret
        exact ⟨by rw [HR.out]; rfl, below_alloc HB.out _⟩
      · have HR := Lib.hid (show clash o x = true from decide_eq_true ⟨h0, fun h => h2 h.2⟩)
        have ne : ¬ x.f2.toList = o.f2.toList := fun h => h2 (str_eq.1 h)
        have ne' : (x.f2.toList == o.f2.toList) = false := beq_eq_false_iff_ne.2 ne
        rw [h0, h1]
        clear h0 h1 h2
        go_enter Try.func22, Try.ntmps22
        go_wp2
        go_ret
        exact ⟨by rw [HR.out]; rfl, below_alloc HB.out _⟩
    · have HR := Lib.hid (show clash o x = true from decide_eq_true ⟨h0, fun h => h1 h.1⟩)
      have ne : ¬ x.f1.toList = o.f1.toList := fun h => h1 (str_eq.1 h)
      have ne' : (x.f1.toList == o.f1.toList) = false := beq_eq_false_iff_ne.2 ne
      rw [h0]
      clear h0 h1
      go_enter Try.func22, Try.ntmps22
      go_wp2
      go_ret
      exact ⟨by rw [HR.out]; rfl, below_alloc HB.out _⟩
  · have HR := Lib.hid (show clash o x = false from decide_eq_false (fun h => h0 h.1))
    go_enter Try.func22, Try.ntmps22
    go_wp2
    go_ret
    exact ⟨by rw [HR.out]; rfl, below_alloc HB.out _⟩
theorem last_le {l : List Od} {o : Od} (h : 0 < l.length) : lastLe l o = decide ((odAt l (l.length - 1)).f4 ≤ o.f4) := by
  have e := take_odAt (l := l) (i := l.length - 1) (by omega)
  rw [Nat.sub_add_cancel h, List.take_length] at e
  unfold lastLe
  conv => lhs; rw [e]
  rw [List.getLast?_concat]
theorem addr_plain {w : World} {a : Addr} {v : Value} (h : w.cell? a = some v) : a = ⟨a.block, a.off, none⟩ := by
  cases a with
  | mk b o s =>
    cases s with
    | none => rfl
    | some s =>
      unfold World.cell? at h
      split at h <;> simp at h
theorem contains_some (A0 : Option Addr) (c0 : Nat) (l : List Od) (o : Od) (B : Nat) (w : World) (hr : Kd.C k24 w A0 l.length l) (hl : 0 < l.length) (hlen : l.length ≤ 400) (hb : w.heap[B]? = some (.cells #[.int .i64 o.f0, .string o.f1, .string o.f2, .int .i64 o.f3, .int .i64 o.f4, .int .i64 o.f5, .int .i64 o.f6, .bool o.f7] 24 (0, 0))) :
    Calls Try.prog 21 #[.slice A0 l.length c0, .func (.func 22) #[] #[.pointer (some ⟨B, 0, none⟩)]] w fun e w' => e = .returned (.bool (!sameParties l o)) ∧ Below w.heap.size w w' := by
  have eg : ∀ args w, (callFunc 22 args).run Try.prog w = .ok (.enter 22 args) w := enters_of Try.func22 (by kernel_rfl) rfl
  obtain ⟨ad, rfl, q0, -⟩ := od_cells hr (i := 0) hl
  have hp : ad.add (0 * 8) = ad := by simp [Addr.add]
  rw [hp] at q0
  have hpl := addr_plain q0
  have hbk : ad.block < w.heap.size := World.block_lt_of_cell? w ad q0
  rw [hpl]
  have h := AnyQ.slices_ContainsFunc Try.l21 8 Try.isAgg24 Try.sizeOf24 odEnc (fun _ => rfl) (clash o) 22 #[.pointer (some ⟨B, 0, none⟩)] eg ad.block ad.off l.length c0 l w (clash_pred o B w hb) (Nat.le_refl _) (by omega) hbk (fun j hj i v hi => by
    obtain ⟨ad', e', h0, h1, h2, h3, h4, h5, h6, h7⟩ := od_cells hr hj
    cases e'
    have eo : l[j]! = odAt l j := by
      unfold odAt
      rw [getElem!_pos l j hj, List.getD_eq_getElem?_getD, List.getElem?_eq_getElem hj]
      rfl
    rw [eo] at hi
    rw [hpl] at h0 h1 h2 h3 h4 h5 h6 h7
    have ea : (Addr.mk ad.block ad.off none).add (j * 8) = ⟨ad.block, ad.off + j * 8, none⟩ := by rw [Addr.add_lit]
    rw [ea] at h0 h1 h2 h3 h4 h5 h6 h7
    match i, hi with
    | 0, hi => simp [odEnc] at hi; rw [← hi]; exact h0
    | 1, hi => simp [odEnc] at hi; rw [← hi]; exact h1
    | 2, hi => simp [odEnc] at hi; rw [← hi]; exact h2
    | 3, hi => simp [odEnc] at hi; rw [← hi]; exact h3
    | 4, hi => simp [odEnc] at hi; rw [← hi]; exact h4
    | 5, hi => simp [odEnc] at hi; rw [← hi]; exact h5
    | 6, hi => simp [odEnc] at hi; rw [← hi]; exact h6
    | 7, hi => simp [odEnc] at hi; rw [← hi]; exact h7
    | i + 8, hi => simp [odEnc] at hi)
  rw [List.take_length, any_clash] at h
  exact h
set_option maxRecDepth 100000 in
set_option maxHeartbeats 2000000 in
theorem contains_nil (A0 : Option Addr) (c0 : Nat) (B : Nat) (w : World) :
    Calls Try.prog 21 #[.slice A0 0 c0, .func (.func 22) #[] #[.pointer (some ⟨B, 0, none⟩)]] w fun e w' => e = .returned (.bool false) ∧ w' = w := by
  go_enter Try.func21, Try.ntmps21
  go_wp2
  refine wp_loop_rounds 1 ?_
  rw [rounds_succ]
  go_wp2
  go_ret
  exact ⟨rfl, rfl⟩
theorem contains_any (A0 : Option Addr) (c0 : Nat) (l : List Od) (o : Od) (B : Nat) (w : World) (hr : Kd.C k24 w A0 l.length l) (hlen : l.length ≤ 400) (hb : w.heap[B]? = some (.cells #[.int .i64 o.f0, .string o.f1, .string o.f2, .int .i64 o.f3, .int .i64 o.f4, .int .i64 o.f5, .int .i64 o.f6, .bool o.f7] 24 (0, 0))) :
    Calls Try.prog 21 #[.slice A0 l.length c0, .func (.func 22) #[] #[.pointer (some ⟨B, 0, none⟩)]] w fun e w' => e = .returned (.bool (!sameParties l o)) ∧ Below w.heap.size w w' := by
  by_cases h : 0 < l.length
  · exact contains_some A0 c0 l o B w hr h hlen hb
  · obtain rfl : l = [] := List.eq_nil_of_length_eq_zero (by omega)
    refine (contains_nil A0 c0 B w).mono ?_
    rintro e w' ⟨rfl, rfl⟩
    exact ⟨rfl, Below.refl _ _⟩
def RecPost (w : World) (r : List Od × Int) (e : Ending) (w' : World) : Prop := ∃ v0_ : Value, e = .returned (.tuple #[v0_, .int .i64 r.2]) ∧ Kd.R k24 24 w' w.heap.size (fun _ => True) v0_ r.1 ∧ Below w.heap.size w w'
set_option maxRecDepth 100000 in
set_option maxHeartbeats 2000000 in
theorem record_any (A0 : Option Addr) (c0 : Nat) (l0 : List Od) (o : Od) (w : World) (hr0 : Kd.C k24 w A0 l0.length l0) (hc0 : l0.length ≤ c0) :
    Calls Try.prog 12 #[.slice A0 l0.length c0, .agg #[.int .i64 o.f0, .string o.f1, .string o.f2, .int .i64 o.f3, .int .i64 o.f4, .int .i64 o.f5, .int .i64 o.f6, .bool o.f7]] w (RecPost w (recO l0 o)) := by
  have HC := Lib.hid hr0
  have HL := Lib.hid hc0
  clear hr0 hc0
  cases hv : valid l0 with
  | false =>
    have HVC := Lib.hid (fun (W : World) (hW : Below w.heap.size w W) => hv ▸ valid_any A0 c0 l0 W (Kd.C_below HC.out hW) HL.out)
    have HR := Lib.hid (show recO l0 o = ([], 1) from by unfold recO; rw [if_neg (fun h => by rw [hv] at h; cases h.1)])
    clear hv
    go_enter Try.func12, Try.ntmps12
    go_wp2_with (first | (go_at_call 14; refine (HVC.out _ (by repeat (first | exact Below.refl _ _ | apply below_alloc | apply pw_below_drewN))).mono ?_; rintro e w1 ⟨rfl, hb⟩; have HB := Lib.hid (below_step (below_alloc (Below.refl w.heap.size w) (.cells #[.int .i64 o.f0, .string o.f1, .string o.f2, .int .i64 o.f3, .int .i64 o.f4, .int .i64 o.f5, .int .i64 o.f6, .bool o.f7] 24)) hb); have HO := Lib.hid (blk_below (World.alloc_heap_new w (.cells #[.int .i64 o.f0, .string o.f1, .string o.f2, .int .i64 o.f3, .int .i64 o.f4, .int .i64 o.f5, .int .i64 o.f6, .bool o.f7] 24)) hb); obtain ⟨v0, v1, v2, v3, v4, v5, v6, v7⟩ := od_blk HO.out; have hs1 := hb.size; clear hb) | (go_at_call 20; refine (HF.out _).mono ?_; rintro e w2 ⟨rfl, hb⟩; have HB2 := Lib.hid (below_step HB.out hb); have HO2 := Lib.hid (blk_below HO.out hb); obtain ⟨v0, v1, v2, v3, v4, v5, v6, v7⟩ := od_blk HO2.out; clear hb) | go_in)
    go_ret2
    rw [HR.out]
    exact ⟨_, rfl, Kd.R_nil _ _ _ _ _, HB.out⟩
  | true =>
    have HVC := Lib.hid (fun (W : World) (hW : Below w.heap.size w W) => hv ▸ valid_any A0 c0 l0 W (Kd.C_below HC.out hW) HL.out)
    have hlen := ((valid_iff l0).1 hv).1
    cases hf : formedOk o with
    | false =>
      have HF := Lib.hid (formed_b hf)
      have HR := Lib.hid (show recO l0 o = ([], 1) from by unfold recO; rw [if_neg (fun h => by rw [hf] at h; cases h.2)])
      clear hv hf
      go_enter Try.func12, Try.ntmps12
      go_wp2_with (first | (go_at_call 14; refine (HVC.out _ (by repeat (first | exact Below.refl _ _ | apply below_alloc | apply pw_below_drewN))).mono ?_; rintro e w1 ⟨rfl, hb⟩; have HB := Lib.hid (below_step (below_alloc (Below.refl w.heap.size w) (.cells #[.int .i64 o.f0, .string o.f1, .string o.f2, .int .i64 o.f3, .int .i64 o.f4, .int .i64 o.f5, .int .i64 o.f6, .bool o.f7] 24)) hb); have HO := Lib.hid (blk_below (World.alloc_heap_new w (.cells #[.int .i64 o.f0, .string o.f1, .string o.f2, .int .i64 o.f3, .int .i64 o.f4, .int .i64 o.f5, .int .i64 o.f6, .bool o.f7] 24)) hb); obtain ⟨v0, v1, v2, v3, v4, v5, v6, v7⟩ := od_blk HO.out; have hs1 := hb.size; clear hb) | (go_at_call 20; refine (HF.out _).mono ?_; rintro e w2 ⟨rfl, hb⟩; have HB2 := Lib.hid (below_step HB.out hb); have HO2 := Lib.hid (blk_below HO.out hb); obtain ⟨v0, v1, v2, v3, v4, v5, v6, v7⟩ := od_blk HO2.out; clear hb) | go_in)
      go_ret2
      rw [HR.out]
      exact ⟨_, rfl, Kd.R_nil _ _ _ _ _, HB2.out⟩
    | true =>
      have HF := Lib.hid (formed_b hf)
      have hR1 : recO l0 o = (if lastLe l0 o = true then (if sameParties l0 o = true then (if valid (l0 ++ [o]) = true then (l0 ++ [o], 0) else ([], 2)) else ([], 311)) else ([], 6)) := by unfold recO; rw [if_pos ⟨hv, hf⟩]
      have HR1 := Lib.hid hR1
      clear hv hf hR1
      go_enter Try.func12, Try.ntmps12
      go_wp2_with (first | (go_at_call 14; refine (HVC.out _ (by repeat (first | exact Below.refl _ _ | apply below_alloc | apply pw_below_drewN))).mono ?_; rintro e w1 ⟨rfl, hb⟩; have HB := Lib.hid (below_step (below_alloc (Below.refl w.heap.size w) (.cells #[.int .i64 o.f0, .string o.f1, .string o.f2, .int .i64 o.f3, .int .i64 o.f4, .int .i64 o.f5, .int .i64 o.f6, .bool o.f7] 24)) hb); have HO := Lib.hid (blk_below (World.alloc_heap_new w (.cells #[.int .i64 o.f0, .string o.f1, .string o.f2, .int .i64 o.f3, .int .i64 o.f4, .int .i64 o.f5, .int .i64 o.f6, .bool o.f7] 24)) hb); obtain ⟨v0, v1, v2, v3, v4, v5, v6, v7⟩ := od_blk HO.out; have hs1 := hb.size; clear hb) | (go_at_call 20; refine (HF.out _).mono ?_; rintro e w2 ⟨rfl, hb⟩; have HB2 := Lib.hid (below_step HB.out hb); have HO2 := Lib.hid (blk_below HO.out hb); obtain ⟨v0, v1, v2, v3, v4, v5, v6, v7⟩ := od_blk HO2.out; clear hb) | go_in)
      have HCL := Lib.hid (fun (W : World) (hW : Below w.heap.size w W) => clone_od A0 c0 l0 W (Kd.C_below HC.out hW) HL.out (by omega))
      by_cases h0 : l0.length = 0
      · have z0 : decide (0 < l0.length) = false := decide_eq_false (by omega)
        have HLL : Hid (lastLe l0 o = true) := Lib.hid (by rw [List.eq_nil_of_length_eq_zero h0]; rfl)
        clear h0
        go_quiet (fail)
        have HCF := Lib.hid (fun (n : Nat) => contains_any A0 c0 l0 o w.heap.size (w2.drewN n) (Kd.C_below HC.out (pw_below_drewN HB2.out n)) (by omega) (blk_drewN HO2.out n))
        cases hsp : sameParties l0 o with
        | false =>
          have HR := Lib.hid (show recO l0 o = ([], 311) from by rw [HR1.out, if_pos HLL.out, if_neg (by rw [hsp]; simp)])
          have HSP := Lib.hid hsp
          clear hsp
          go_wp2_with fail
          refine (HCF.out _).mono ?_
          rintro e w3 ⟨rfl, hb⟩
          have HB3 := Lib.hid (below_step (pw_below_drewN HB2.out _) hb)
          rw [HSP.out]
          clear hb
          go_wp2_with fail
          go_ret2
          rw [HR.out]
          exact ⟨_, rfl, Kd.R_nil _ _ _ _ _, HB3.out⟩
        | true =>
          have HR3 := Lib.hid (show recO l0 o = (if valid (l0 ++ [o]) = true then (l0 ++ [o], 0) else ([], 2)) from by rw [HR1.out, if_pos HLL.out, if_pos hsp])
          have HSP := Lib.hid hsp
          clear hsp
          go_wp2_with fail
          refine (HCF.out _).mono ?_
          rintro e w3 ⟨rfl, hb⟩
          have H3 := Lib.hid (And.intro (blk_below (blk_drewN HO2.out _) hb) (below_step (pw_below_drewN HB2.out _) hb))
          rw [HSP.out]
          clear hb
          go_wp2_with fail
          refine start_ (n := 6) (S := fun W => W.heap[w.heap.size]? = some (.cells #[.int .i64 o.f0, .string o.f1, .string o.f2, .int .i64 o.f3, .int .i64 o.f4, .int .i64 o.f5, .int .i64 o.f6, .bool o.f7] 24 (0, 0)) ∧ Below w.heap.size w W) (ds := [4]) #[false, false, false, false, false, false] (by kernel_rfl) rfl rfl ⟨blk_drew H3.out.1, below_drew1 H3.out.2⟩ (fun hHeld => ?_)
          clear v0 v1 v2 v3 v4 v5 v6 v7
          generalize w3.drew = w4 at hHeld ⊢
          refine pure_ (i := 0) (N := (some 34)) (v := ?_) (a' := ?_) #[true, false, false, false, false, false] rfl rfl (by kernel_rfl) (fun _ _ _ h => h) (Or.inl ⟨by rfl, ?_⟩) ?_ ?_
          rotate_left
          · intro w'
            go_simp
            with_reducible rfl
          rotate_left
          · simp only [Act.put, List.setIfInBounds_toArray, List.set_cons_zero, List.set_cons_succ, i64_w, i32_w]
            rfl
          refine take_ (i := 2) (N := (some 36)) (v := ?_) (a' := ?_) #[true, false, true, false, false, false] rfl rfl (by kernel_rfl) (fun _ _ _ h => h) (Or.inl ⟨by rfl, ?_⟩) hHeld ?_ ?_
          rotate_left
          · rintro w' ⟨s, -⟩
            obtain ⟨c0, c1, c2, c3, c4, c5, c6, c7⟩ := od_blk s
            clear s
            go_simp
            with_reducible rfl
          rotate_left
          · simp only [Act.put, List.setIfInBounds_toArray, List.set_cons_zero, List.set_cons_succ, i64_w, i32_w]
            rfl
          refine two_ (i := 1) (j := 3) (Ni := some 35) (Nj := some 37) #[true, true, true, false, false, false] #[true, false, true, true, false, false] rfl rfl rfl rfl (by kernel_rfl) (by decide) (by decide) (fun K hK => ?_) (fun K hK => ?_)
          · refine goes_ Try.func23 (by kernel_rfl) rfl #[.slice A0 l0.length c0] (by rfl) rfl rfl (by (try simp only [List.map_toArray, List.map_cons, List.map_nil]); first | done | rfl) ?_
            with_reducible refine (HCL.out _ hHeld.2).mono ?_
            rintro e w5 ⟨v1, rfl, hR, hb⟩
            have H1 := Lib.hid (And.intro (Kd.R_lower hR hHeld.2.size) (And.intro (blk_below hHeld.1 hb) (below_step hHeld.2 hb)))
            clear hR hb
            refine ⟨_, rfl, ?_⟩
            refine hK.out _ _ H1.out.2 (fun hHeld => ?_)
            clear hK K
            refine norm_ (a' := ?_) ?_ ?_
            rotate_left
            · show Act.put _ (some 35) _ = _
              simp only [Act.put, List.setIfInBounds_toArray, List.set_cons_zero, List.set_cons_succ, i64_w, i32_w]
              rfl
            refine one_ (i := 3) (N := some 37) #[true, true, true, true, false, false] rfl rfl (by kernel_rfl) (by decide) (fun K hK => ?_)
            refine Kd.R_lit_step k24 _ 24 ?hg (N := 37) ?hd (xs := [o]) (inner := [.int .i64 o.f0, .string o.f1, .string o.f2, .int .i64 o.f3, .int .i64 o.f4, .int .i64 o.f5, .int .i64 o.f6, .bool o.f7]) (ok := fun _ => True) (okp := fun _ => True) ?hr ?hp (fun _ hk => hk) trivial (Below.refl _ _) (Nat.le_refl _) (by simp) ?_
            case hd => rfl
            case hg => rfl
            case hr => first | (go_simp; done) | (go_simp; rfl)
            case hp => exact (Reps.c8 (show Kd.M k24 _ _ _ o [.int .i64 o.f0, .string o.f1, .string o.f2, .int .i64 o.f3, .int .i64 o.f4, .int .i64 o.f5, .int .i64 o.f6, .bool o.f7] from (k24_mkM _ _ _ o)) (Reps.none _ _))
            intro v2 w6 hR2 hb2 hg2 hat2
            have H2 := Lib.hid (And.intro (Kd.R_mono (ok' := fun k => some k ≠ v2.ownBlock) (Kd.R_elder' H1.out.1 (Kd.R_base hR2) hb2) (fun _ h => h.2)) (And.intro (Kd.R_lower hR2 H1.out.2.2.size) (And.intro (blk_below H1.out.2.1 hb2) (below_step H1.out.2.2 hb2))))
            clear hR2 hb2 hg2 hat2 H1
            refine hK.out _ _ H2.out.2.2 (fun hHeld => ?_)
            clear hK K hHeld
            refine norm_ (a' := ?_) ?_ ?_
            rotate_left
            · show Act.put _ (some 37) _ = _
              simp only [Act.put, List.setIfInBounds_toArray, List.set_cons_zero, List.set_cons_succ, i64_w, i32_w]
              rfl
            obtain ⟨A2, c2, e2⟩ := Kd.R_slice H2.out.2.1
            subst e2
            have HQ := Lib.hid (And.intro H2.out.1 (And.intro H2.out.2.1 H2.out.2.2.2))
            refine last_ (i := 4) (N := some 38) #[true, true, true, true, true, false] rfl rfl (by kernel_rfl) (by decide) (fun K hK => ?_)
            refine Kd.R_append_rows_step k24 (w0 := w) w.heap.size (by rfl) (.tmp 35) (.tmp 37) 22 24 (.agg #[(.int .i64 0), (.string ⟨#[]⟩), (.string ⟨#[]⟩), (.int .i64 0), (.int .i64 0), (.int .i64 0), (.int .i64 0), (.bool false)]) 80 rfl Try.underlying22 info24 rfl (by decide) (by omega) v1 l0 [o] _ _ _ (fun k_ => some k_ ≠ (.slice A2 [o].length c2 : Value).ownBlock) (fun _ => False) rfl rfl HQ.out.1 (Kd.R_reads' HQ.out.2.1).2.2 (fun _ _ h => h) (fun _ h => h.elim) (Kd.fresh' (Kd.R_lt HQ.out.2.1)) HQ.out.2.2 HQ.out.2.2.size (by simp only [List.length_cons, List.length_nil]; omega) ?_
            intro v3 w5 hR3 hb3 hg3 hat3
            have HN := Lib.hid (And.intro (Kd.R_mono (ok' := fun _ => True) hR3 (fun _ _ => trivial)) hb3)
            clear hR3 hb3 hg3 hat3
            refine hK.out _ _ ?_
            clear hK K
            refine norm_ (a' := ?_) ?_ ?_
            rotate_left
            · show Act.put _ (some 38) _ = _
              simp only [Act.put, List.setIfInBounds_toArray, List.set_cons_zero, List.set_cons_succ, i64_w, i32_w]
              rfl
            refine pure_ (i := 5) (N := (some 7)) (v := ?_) (a' := ?_) #[true, true, true, true, true, true] rfl rfl (by kernel_rfl) (fun _ _ _ h => h) (Or.inl ⟨by rfl, ?_⟩) ?_ ?_
            rotate_left
            · intro w'
              go_simp
              with_reducible rfl
            rotate_left
            · simp only [Act.put, List.setIfInBounds_toArray, List.set_cons_zero, List.set_cons_succ, i64_w, i32_w]
              rfl
            refine done_ (by kernel_rfl) ?_
            obtain ⟨A3, c3, e3⟩ := Kd.R_slice HN.out.1
            subst e3
            generalize hL : l0 ++ [o] = L at *
            have HLL2 := Lib.hid hL
            clear hL
            have HV2 := Lib.hid (fun (b : Bool) (hb : valid L = b) => hb ▸ valid_any A3 c3 L w5 (Kd.R_reads' HN.out.1).2.2 (Kd.R_reads' HN.out.1).2.1)
            cases hvo : valid L with
            | true =>
              have HV3 := Lib.hid (HV2.out _ hvo)
              have HRR := Lib.hid (show recO l0 o = (L, 0) from by rw [HR3.out, if_pos hvo])
              clear hvo
              go_wp2_with fail
              ((with_reducible refine HV3.out.mono ?_); skip)
              rintro e w6 ⟨rfl, hb⟩
              have HN2 := Lib.hid (And.intro (Kd.R_below HN.out.1 hb) (below_step HN.out.2 hb))
              clear hb
              go_wp2_with fail
              go_ret2
              rw [HRR.out]
              exact ⟨_, rfl, HN2.out.1, HN2.out.2⟩
            | false =>
              have HV3 := Lib.hid (HV2.out _ hvo)
              have HRR := Lib.hid (show recO l0 o = ([], 2) from by rw [HR3.out, if_neg (by rw [hvo]; simp)])
              clear hvo
              go_wp2_with fail
              ((with_reducible refine HV3.out.mono ?_); skip)
              rintro e w6 ⟨rfl, hb⟩
              have HN2 := Lib.hid (below_step HN.out.2 hb)
              clear hb
              go_wp2_with fail
              go_ret2
              rw [HRR.out]
              exact ⟨_, rfl, Kd.R_nil _ _ _ _ _, HN2.out⟩
          · refine Kd.R_lit_step k24 _ 24 ?hg (N := 37) ?hd (xs := [o]) (inner := [.int .i64 o.f0, .string o.f1, .string o.f2, .int .i64 o.f3, .int .i64 o.f4, .int .i64 o.f5, .int .i64 o.f6, .bool o.f7]) (ok := fun _ => True) (okp := fun _ => True) ?hr ?hp (fun _ hk => hk) trivial (Below.refl _ _) (Nat.le_refl _) (by simp) ?_
            case hd => rfl
            case hg => rfl
            case hr => first | (go_simp; done) | (go_simp; rfl)
            case hp => exact (Reps.c8 (show Kd.M k24 _ _ _ o [.int .i64 o.f0, .string o.f1, .string o.f2, .int .i64 o.f3, .int .i64 o.f4, .int .i64 o.f5, .int .i64 o.f6, .bool o.f7] from (k24_mkM _ _ _ o)) (Reps.none _ _))
            intro v2 w5 hR2 hb2 hg2 hat2
            have H1 := Lib.hid (And.intro hR2 (And.intro (blk_below hHeld.1 hb2) (And.intro (below_step hHeld.2 hb2) (And.intro hHeld.2.size hb2.size))))
            clear hR2 hb2 hg2 hat2
            refine hK.out _ _ ⟨H1.out.2.1, H1.out.2.2.1⟩ (fun hHeld => ?_)
            clear hK K
            refine norm_ (a' := ?_) ?_ ?_
            rotate_left
            · show Act.put _ (some 37) _ = _
              simp only [Act.put, List.setIfInBounds_toArray, List.set_cons_zero, List.set_cons_succ, i64_w, i32_w]
              rfl
            refine one_ (i := 1) (N := some 35) #[true, true, true, true, false, false] rfl rfl (by kernel_rfl) (by decide) (fun K hK => ?_)
            refine goes_ Try.func23 (by kernel_rfl) rfl #[.slice A0 l0.length c0] (by rfl) rfl rfl (by (try simp only [List.map_toArray, List.map_cons, List.map_nil]); first | done | rfl) ?_
            with_reducible refine (HCL.out _ hHeld.2).mono ?_
            rintro e w6 ⟨v1, rfl, hR, hb⟩
            have H2 := Lib.hid (And.intro (Kd.R_lower (Kd.R_mono (ok' := fun k => some k ≠ v2.ownBlock) (Kd.R_new' hR (Kd.R_lt H1.out.1)) (fun _ h => h.2)) hHeld.2.size) (And.intro (Kd.R_lower (Kd.R_below H1.out.1 hb) H1.out.2.2.2.1) (And.intro (blk_below H1.out.2.1 hb) (below_step H1.out.2.2.1 hb))))
            clear hR hb H1 hHeld
            refine ⟨_, rfl, ?_⟩
            refine hK.out _ _ H2.out.2.2 (fun hHeld => ?_)
            clear hK K hHeld
            refine norm_ (a' := ?_) ?_ ?_
            rotate_left
            · show Act.put _ (some 35) _ = _
              simp only [Act.put, List.setIfInBounds_toArray, List.set_cons_zero, List.set_cons_succ, i64_w, i32_w]
              rfl
            obtain ⟨A2, c2, e2⟩ := Kd.R_slice H2.out.2.1
            subst e2
            have HQ := Lib.hid (And.intro H2.out.1 (And.intro H2.out.2.1 H2.out.2.2.2))
            refine last_ (i := 4) (N := some 38) #[true, true, true, true, true, false] rfl rfl (by kernel_rfl) (by decide) (fun K hK => ?_)
            refine Kd.R_append_rows_step k24 (w0 := w) w.heap.size (by rfl) (.tmp 35) (.tmp 37) 22 24 (.agg #[(.int .i64 0), (.string ⟨#[]⟩), (.string ⟨#[]⟩), (.int .i64 0), (.int .i64 0), (.int .i64 0), (.int .i64 0), (.bool false)]) 80 rfl Try.underlying22 info24 rfl (by decide) (by omega) v1 l0 [o] _ _ _ (fun k_ => some k_ ≠ (.slice A2 [o].length c2 : Value).ownBlock) (fun _ => False) rfl rfl HQ.out.1 (Kd.R_reads' HQ.out.2.1).2.2 (fun _ _ h => h) (fun _ h => h.elim) (Kd.fresh' (Kd.R_lt HQ.out.2.1)) HQ.out.2.2 HQ.out.2.2.size (by simp only [List.length_cons, List.length_nil]; omega) ?_
            intro v3 w5 hR3 hb3 hg3 hat3
            have HN := Lib.hid (And.intro (Kd.R_mono (ok' := fun _ => True) hR3 (fun _ _ => trivial)) hb3)
            clear hR3 hb3 hg3 hat3
            refine hK.out _ _ ?_
            clear hK K
            refine norm_ (a' := ?_) ?_ ?_
            rotate_left
            · show Act.put _ (some 38) _ = _
              simp only [Act.put, List.setIfInBounds_toArray, List.set_cons_zero, List.set_cons_succ, i64_w, i32_w]
              rfl
            refine pure_ (i := 5) (N := (some 7)) (v := ?_) (a' := ?_) #[true, true, true, true, true, true] rfl rfl (by kernel_rfl) (fun _ _ _ h => h) (Or.inl ⟨by rfl, ?_⟩) ?_ ?_
            rotate_left
            · intro w'
              go_simp
              with_reducible rfl
            rotate_left
            · simp only [Act.put, List.setIfInBounds_toArray, List.set_cons_zero, List.set_cons_succ, i64_w, i32_w]
              rfl
            refine done_ (by kernel_rfl) ?_
            obtain ⟨A3, c3, e3⟩ := Kd.R_slice HN.out.1
            subst e3
            generalize hL : l0 ++ [o] = L at *
            have HLL2 := Lib.hid hL
            clear hL
            have HV2 := Lib.hid (fun (b : Bool) (hb : valid L = b) => hb ▸ valid_any A3 c3 L w5 (Kd.R_reads' HN.out.1).2.2 (Kd.R_reads' HN.out.1).2.1)
            cases hvo : valid L with
            | true =>
              have HV3 := Lib.hid (HV2.out _ hvo)
              have HRR := Lib.hid (show recO l0 o = (L, 0) from by rw [HR3.out, if_pos hvo])
              clear hvo
              go_wp2_with fail
              ((with_reducible refine HV3.out.mono ?_); skip)
              rintro e w6 ⟨rfl, hb⟩
              have HN2 := Lib.hid (And.intro (Kd.R_below HN.out.1 hb) (below_step HN.out.2 hb))
              clear hb
              go_wp2_with fail
              go_ret2
              rw [HRR.out]
              exact ⟨_, rfl, HN2.out.1, HN2.out.2⟩
            | false =>
              have HV3 := Lib.hid (HV2.out _ hvo)
              have HRR := Lib.hid (show recO l0 o = ([], 2) from by rw [HR3.out, if_neg (by rw [hvo]; simp)])
              clear hvo
              go_wp2_with fail
              ((with_reducible refine HV3.out.mono ?_); skip)
              rintro e w6 ⟨rfl, hb⟩
              have HN2 := Lib.hid (below_step HN.out.2 hb)
              clear hb
              go_wp2_with fail
              go_ret2
              rw [HRR.out]
              exact ⟨_, rfl, Kd.R_nil _ _ _ _ _, HN2.out⟩
      · have z0 : decide (0 < l0.length) = true := decide_eq_true (by omega)
        have hk1 : l0.length - 1 < l0.length := by omega
        obtain ⟨ad, rfl, q0, q1, q2, q3, q4, q5, q6, q7⟩ := od_cells (Kd.C_below HC.out HB2.out) hk1
        have hlast := last_le (o := o) (show 0 < l0.length by omega)
        generalize odAt l0 (l0.length - 1) = q at *
        have HLA := Lib.hid hlast
        have z1 : (0 : Int) ≤ (l0.length : Int) - 1 := by omega
        have z2 : (l0.length : Int) - 1 < (l0.length : Int) := by omega
        have z6 : (1 : Int) ≤ (l0.length : Int) := by omega
        have z3 : ((l0.length : Int) - 1).toNat = l0.length - 1 := by omega
        have z4 : IntKind.i64.wrap ((l0.length : Int) - 1) = (l0.length : Int) - 1 := IntWalk.i64_in _ (by omega)
        clear hlast q0 q1 q2 q3 q5 q6 q7 hk1 h0
        by_cases hle : q.f4 ≤ o.f4
        · have z5 : decide (o.f4 < q.f4) = false := decide_eq_false (by omega)
          have HLL := Lib.hid (show lastLe l0 o = true from by rw [HLA.out]; exact decide_eq_true hle)
          clear hle
          go_quiet (fail)
          clear z1 z2 z3 z4 z5 z6 q4
          have HCF := Lib.hid (fun (n : Nat) => contains_any (some ad) c0 l0 o w.heap.size (w2.drewN n) (Kd.C_below HC.out (pw_below_drewN HB2.out n)) (by omega) (blk_drewN HO2.out n))
          cases hsp : sameParties l0 o with
          | false =>
            have HR := Lib.hid (show recO l0 o = ([], 311) from by rw [HR1.out, if_pos HLL.out, if_neg (by rw [hsp]; simp)])
            have HSP := Lib.hid hsp
            clear hsp
            go_wp2_with fail
            refine (HCF.out _).mono ?_
            rintro e w3 ⟨rfl, hb⟩
            have HB3 := Lib.hid (below_step (pw_below_drewN HB2.out _) hb)
            rw [HSP.out]
            clear hb
            go_wp2_with fail
            go_ret2
            rw [HR.out]
            exact ⟨_, rfl, Kd.R_nil _ _ _ _ _, HB3.out⟩
          | true =>
            have HR3 := Lib.hid (show recO l0 o = (if valid (l0 ++ [o]) = true then (l0 ++ [o], 0) else ([], 2)) from by rw [HR1.out, if_pos HLL.out, if_pos hsp])
            have HSP := Lib.hid hsp
            clear hsp
            go_wp2_with fail
            refine (HCF.out _).mono ?_
            rintro e w3 ⟨rfl, hb⟩
            have H3 := Lib.hid (And.intro (blk_below (blk_drewN HO2.out _) hb) (below_step (pw_below_drewN HB2.out _) hb))
            rw [HSP.out]
            clear hb
            go_wp2_with fail
            refine start_ (n := 6) (S := fun W => W.heap[w.heap.size]? = some (.cells #[.int .i64 o.f0, .string o.f1, .string o.f2, .int .i64 o.f3, .int .i64 o.f4, .int .i64 o.f5, .int .i64 o.f6, .bool o.f7] 24 (0, 0)) ∧ Below w.heap.size w W) (ds := [4]) #[false, false, false, false, false, false] (by kernel_rfl) rfl rfl ⟨blk_drew H3.out.1, below_drew1 H3.out.2⟩ (fun hHeld => ?_)
            clear v0 v1 v2 v3 v4 v5 v6 v7
            generalize w3.drew = w4 at hHeld ⊢
            refine pure_ (i := 0) (N := (some 34)) (v := ?_) (a' := ?_) #[true, false, false, false, false, false] rfl rfl (by kernel_rfl) (fun _ _ _ h => h) (Or.inl ⟨by rfl, ?_⟩) ?_ ?_
            rotate_left
            · intro w'
              go_simp
              with_reducible rfl
            rotate_left
            · simp only [Act.put, List.setIfInBounds_toArray, List.set_cons_zero, List.set_cons_succ, i64_w, i32_w]
              rfl
            refine take_ (i := 2) (N := (some 36)) (v := ?_) (a' := ?_) #[true, false, true, false, false, false] rfl rfl (by kernel_rfl) (fun _ _ _ h => h) (Or.inl ⟨by rfl, ?_⟩) hHeld ?_ ?_
            rotate_left
            · rintro w' ⟨s, -⟩
              obtain ⟨c0, c1, c2, c3, c4, c5, c6, c7⟩ := od_blk s
              clear s
              go_simp
              with_reducible rfl
            rotate_left
            · simp only [Act.put, List.setIfInBounds_toArray, List.set_cons_zero, List.set_cons_succ, i64_w, i32_w]
              rfl
            refine two_ (i := 1) (j := 3) (Ni := some 35) (Nj := some 37) #[true, true, true, false, false, false] #[true, false, true, true, false, false] rfl rfl rfl rfl (by kernel_rfl) (by decide) (by decide) (fun K hK => ?_) (fun K hK => ?_)
            · refine goes_ Try.func23 (by kernel_rfl) rfl #[.slice (some ad) l0.length c0] (by rfl) rfl rfl (by (try simp only [List.map_toArray, List.map_cons, List.map_nil]); first | done | rfl) ?_
              with_reducible refine (HCL.out _ hHeld.2).mono ?_
              rintro e w5 ⟨v1, rfl, hR, hb⟩
              have H1 := Lib.hid (And.intro (Kd.R_lower hR hHeld.2.size) (And.intro (blk_below hHeld.1 hb) (below_step hHeld.2 hb)))
              clear hR hb
              refine ⟨_, rfl, ?_⟩
              refine hK.out _ _ H1.out.2 (fun hHeld => ?_)
              clear hK K
              refine norm_ (a' := ?_) ?_ ?_
              rotate_left
              · show Act.put _ (some 35) _ = _
                simp only [Act.put, List.setIfInBounds_toArray, List.set_cons_zero, List.set_cons_succ, i64_w, i32_w]
                rfl
              refine one_ (i := 3) (N := some 37) #[true, true, true, true, false, false] rfl rfl (by kernel_rfl) (by decide) (fun K hK => ?_)
              refine Kd.R_lit_step k24 _ 24 ?hg (N := 37) ?hd (xs := [o]) (inner := [.int .i64 o.f0, .string o.f1, .string o.f2, .int .i64 o.f3, .int .i64 o.f4, .int .i64 o.f5, .int .i64 o.f6, .bool o.f7]) (ok := fun _ => True) (okp := fun _ => True) ?hr ?hp (fun _ hk => hk) trivial (Below.refl _ _) (Nat.le_refl _) (by simp) ?_
              case hd => rfl
              case hg => rfl
              case hr => first | (go_simp; done) | (go_simp; rfl)
              case hp => exact (Reps.c8 (show Kd.M k24 _ _ _ o [.int .i64 o.f0, .string o.f1, .string o.f2, .int .i64 o.f3, .int .i64 o.f4, .int .i64 o.f5, .int .i64 o.f6, .bool o.f7] from (k24_mkM _ _ _ o)) (Reps.none _ _))
              intro v2 w6 hR2 hb2 hg2 hat2
              have H2 := Lib.hid (And.intro (Kd.R_mono (ok' := fun k => some k ≠ v2.ownBlock) (Kd.R_elder' H1.out.1 (Kd.R_base hR2) hb2) (fun _ h => h.2)) (And.intro (Kd.R_lower hR2 H1.out.2.2.size) (And.intro (blk_below H1.out.2.1 hb2) (below_step H1.out.2.2 hb2))))
              clear hR2 hb2 hg2 hat2 H1
              refine hK.out _ _ H2.out.2.2 (fun hHeld => ?_)
              clear hK K hHeld
              refine norm_ (a' := ?_) ?_ ?_
              rotate_left
              · show Act.put _ (some 37) _ = _
                simp only [Act.put, List.setIfInBounds_toArray, List.set_cons_zero, List.set_cons_succ, i64_w, i32_w]
                rfl
              obtain ⟨A2, c2, e2⟩ := Kd.R_slice H2.out.2.1
              subst e2
              have HQ := Lib.hid (And.intro H2.out.1 (And.intro H2.out.2.1 H2.out.2.2.2))
              refine last_ (i := 4) (N := some 38) #[true, true, true, true, true, false] rfl rfl (by kernel_rfl) (by decide) (fun K hK => ?_)
              refine Kd.R_append_rows_step k24 (w0 := w) w.heap.size (by rfl) (.tmp 35) (.tmp 37) 22 24 (.agg #[(.int .i64 0), (.string ⟨#[]⟩), (.string ⟨#[]⟩), (.int .i64 0), (.int .i64 0), (.int .i64 0), (.int .i64 0), (.bool false)]) 80 rfl Try.underlying22 info24 rfl (by decide) (by omega) v1 l0 [o] _ _ _ (fun k_ => some k_ ≠ (.slice A2 [o].length c2 : Value).ownBlock) (fun _ => False) rfl rfl HQ.out.1 (Kd.R_reads' HQ.out.2.1).2.2 (fun _ _ h => h) (fun _ h => h.elim) (Kd.fresh' (Kd.R_lt HQ.out.2.1)) HQ.out.2.2 HQ.out.2.2.size (by simp only [List.length_cons, List.length_nil]; omega) ?_
              intro v3 w5 hR3 hb3 hg3 hat3
              have HN := Lib.hid (And.intro (Kd.R_mono (ok' := fun _ => True) hR3 (fun _ _ => trivial)) hb3)
              clear hR3 hb3 hg3 hat3
              refine hK.out _ _ ?_
              clear hK K
              refine norm_ (a' := ?_) ?_ ?_
              rotate_left
              · show Act.put _ (some 38) _ = _
                simp only [Act.put, List.setIfInBounds_toArray, List.set_cons_zero, List.set_cons_succ, i64_w, i32_w]
                rfl
              refine pure_ (i := 5) (N := (some 7)) (v := ?_) (a' := ?_) #[true, true, true, true, true, true] rfl rfl (by kernel_rfl) (fun _ _ _ h => h) (Or.inl ⟨by rfl, ?_⟩) ?_ ?_
              rotate_left
              · intro w'
                go_simp
                with_reducible rfl
              rotate_left
              · simp only [Act.put, List.setIfInBounds_toArray, List.set_cons_zero, List.set_cons_succ, i64_w, i32_w]
                rfl
              refine done_ (by kernel_rfl) ?_
              obtain ⟨A3, c3, e3⟩ := Kd.R_slice HN.out.1
              subst e3
              generalize hL : l0 ++ [o] = L at *
              have HLL2 := Lib.hid hL
              clear hL
              have HV2 := Lib.hid (fun (b : Bool) (hb : valid L = b) => hb ▸ valid_any A3 c3 L w5 (Kd.R_reads' HN.out.1).2.2 (Kd.R_reads' HN.out.1).2.1)
              cases hvo : valid L with
              | true =>
                have HV3 := Lib.hid (HV2.out _ hvo)
                have HRR := Lib.hid (show recO l0 o = (L, 0) from by rw [HR3.out, if_pos hvo])
                clear hvo
                go_wp2_with fail
                ((with_reducible refine HV3.out.mono ?_); skip)
                rintro e w6 ⟨rfl, hb⟩
                have HN2 := Lib.hid (And.intro (Kd.R_below HN.out.1 hb) (below_step HN.out.2 hb))
                clear hb
                go_wp2_with fail
                go_ret2
                rw [HRR.out]
                exact ⟨_, rfl, HN2.out.1, HN2.out.2⟩
              | false =>
                have HV3 := Lib.hid (HV2.out _ hvo)
                have HRR := Lib.hid (show recO l0 o = ([], 2) from by rw [HR3.out, if_neg (by rw [hvo]; simp)])
                clear hvo
                go_wp2_with fail
                ((with_reducible refine HV3.out.mono ?_); skip)
                rintro e w6 ⟨rfl, hb⟩
                have HN2 := Lib.hid (below_step HN.out.2 hb)
                clear hb
                go_wp2_with fail
                go_ret2
                rw [HRR.out]
                exact ⟨_, rfl, Kd.R_nil _ _ _ _ _, HN2.out⟩
            · refine Kd.R_lit_step k24 _ 24 ?hg (N := 37) ?hd (xs := [o]) (inner := [.int .i64 o.f0, .string o.f1, .string o.f2, .int .i64 o.f3, .int .i64 o.f4, .int .i64 o.f5, .int .i64 o.f6, .bool o.f7]) (ok := fun _ => True) (okp := fun _ => True) ?hr ?hp (fun _ hk => hk) trivial (Below.refl _ _) (Nat.le_refl _) (by simp) ?_
              case hd => rfl
              case hg => rfl
              case hr => first | (go_simp; done) | (go_simp; rfl)
              case hp => exact (Reps.c8 (show Kd.M k24 _ _ _ o [.int .i64 o.f0, .string o.f1, .string o.f2, .int .i64 o.f3, .int .i64 o.f4, .int .i64 o.f5, .int .i64 o.f6, .bool o.f7] from (k24_mkM _ _ _ o)) (Reps.none _ _))
              intro v2 w5 hR2 hb2 hg2 hat2
              have H1 := Lib.hid (And.intro hR2 (And.intro (blk_below hHeld.1 hb2) (And.intro (below_step hHeld.2 hb2) (And.intro hHeld.2.size hb2.size))))
              clear hR2 hb2 hg2 hat2
              refine hK.out _ _ ⟨H1.out.2.1, H1.out.2.2.1⟩ (fun hHeld => ?_)
              clear hK K
              refine norm_ (a' := ?_) ?_ ?_
              rotate_left
              · show Act.put _ (some 37) _ = _
                simp only [Act.put, List.setIfInBounds_toArray, List.set_cons_zero, List.set_cons_succ, i64_w, i32_w]
                rfl
              refine one_ (i := 1) (N := some 35) #[true, true, true, true, false, false] rfl rfl (by kernel_rfl) (by decide) (fun K hK => ?_)
              refine goes_ Try.func23 (by kernel_rfl) rfl #[.slice (some ad) l0.length c0] (by rfl) rfl rfl (by (try simp only [List.map_toArray, List.map_cons, List.map_nil]); first | done | rfl) ?_
              with_reducible refine (HCL.out _ hHeld.2).mono ?_
              rintro e w6 ⟨v1, rfl, hR, hb⟩
              have H2 := Lib.hid (And.intro (Kd.R_lower (Kd.R_mono (ok' := fun k => some k ≠ v2.ownBlock) (Kd.R_new' hR (Kd.R_lt H1.out.1)) (fun _ h => h.2)) hHeld.2.size) (And.intro (Kd.R_lower (Kd.R_below H1.out.1 hb) H1.out.2.2.2.1) (And.intro (blk_below H1.out.2.1 hb) (below_step H1.out.2.2.1 hb))))
              clear hR hb H1 hHeld
              refine ⟨_, rfl, ?_⟩
              refine hK.out _ _ H2.out.2.2 (fun hHeld => ?_)
              clear hK K hHeld
              refine norm_ (a' := ?_) ?_ ?_
              rotate_left
              · show Act.put _ (some 35) _ = _
                simp only [Act.put, List.setIfInBounds_toArray, List.set_cons_zero, List.set_cons_succ, i64_w, i32_w]
                rfl
              obtain ⟨A2, c2, e2⟩ := Kd.R_slice H2.out.2.1
              subst e2
              have HQ := Lib.hid (And.intro H2.out.1 (And.intro H2.out.2.1 H2.out.2.2.2))
              refine last_ (i := 4) (N := some 38) #[true, true, true, true, true, false] rfl rfl (by kernel_rfl) (by decide) (fun K hK => ?_)
              refine Kd.R_append_rows_step k24 (w0 := w) w.heap.size (by rfl) (.tmp 35) (.tmp 37) 22 24 (.agg #[(.int .i64 0), (.string ⟨#[]⟩), (.string ⟨#[]⟩), (.int .i64 0), (.int .i64 0), (.int .i64 0), (.int .i64 0), (.bool false)]) 80 rfl Try.underlying22 info24 rfl (by decide) (by omega) v1 l0 [o] _ _ _ (fun k_ => some k_ ≠ (.slice A2 [o].length c2 : Value).ownBlock) (fun _ => False) rfl rfl HQ.out.1 (Kd.R_reads' HQ.out.2.1).2.2 (fun _ _ h => h) (fun _ h => h.elim) (Kd.fresh' (Kd.R_lt HQ.out.2.1)) HQ.out.2.2 HQ.out.2.2.size (by simp only [List.length_cons, List.length_nil]; omega) ?_
              intro v3 w5 hR3 hb3 hg3 hat3
              have HN := Lib.hid (And.intro (Kd.R_mono (ok' := fun _ => True) hR3 (fun _ _ => trivial)) hb3)
              clear hR3 hb3 hg3 hat3
              refine hK.out _ _ ?_
              clear hK K
              refine norm_ (a' := ?_) ?_ ?_
              rotate_left
              · show Act.put _ (some 38) _ = _
                simp only [Act.put, List.setIfInBounds_toArray, List.set_cons_zero, List.set_cons_succ, i64_w, i32_w]
                rfl
              refine pure_ (i := 5) (N := (some 7)) (v := ?_) (a' := ?_) #[true, true, true, true, true, true] rfl rfl (by kernel_rfl) (fun _ _ _ h => h) (Or.inl ⟨by rfl, ?_⟩) ?_ ?_
              rotate_left
              · intro w'
                go_simp
                with_reducible rfl
              rotate_left
              · simp only [Act.put, List.setIfInBounds_toArray, List.set_cons_zero, List.set_cons_succ, i64_w, i32_w]
                rfl
              refine done_ (by kernel_rfl) ?_
              obtain ⟨A3, c3, e3⟩ := Kd.R_slice HN.out.1
              subst e3
              generalize hL : l0 ++ [o] = L at *
              have HLL2 := Lib.hid hL
              clear hL
              have HV2 := Lib.hid (fun (b : Bool) (hb : valid L = b) => hb ▸ valid_any A3 c3 L w5 (Kd.R_reads' HN.out.1).2.2 (Kd.R_reads' HN.out.1).2.1)
              cases hvo : valid L with
              | true =>
                have HV3 := Lib.hid (HV2.out _ hvo)
                have HRR := Lib.hid (show recO l0 o = (L, 0) from by rw [HR3.out, if_pos hvo])
                clear hvo
                go_wp2_with fail
                ((with_reducible refine HV3.out.mono ?_); skip)
                rintro e w6 ⟨rfl, hb⟩
                have HN2 := Lib.hid (And.intro (Kd.R_below HN.out.1 hb) (below_step HN.out.2 hb))
                clear hb
                go_wp2_with fail
                go_ret2
                rw [HRR.out]
                exact ⟨_, rfl, HN2.out.1, HN2.out.2⟩
              | false =>
                have HV3 := Lib.hid (HV2.out _ hvo)
                have HRR := Lib.hid (show recO l0 o = ([], 2) from by rw [HR3.out, if_neg (by rw [hvo]; simp)])
                clear hvo
                go_wp2_with fail
                ((with_reducible refine HV3.out.mono ?_); skip)
                rintro e w6 ⟨rfl, hb⟩
                have HN2 := Lib.hid (below_step HN.out.2 hb)
                clear hb
                go_wp2_with fail
                go_ret2
                rw [HRR.out]
                exact ⟨_, rfl, Kd.R_nil _ _ _ _ _, HN2.out⟩
        · have z5 : decide (o.f4 < q.f4) = true := decide_eq_true (by omega)
          have HR := Lib.hid (show recO l0 o = ([], 6) from by rw [HR1.out, if_neg (by rw [HLA.out]; simpa using hle)])
          clear hle
          go_quiet (fail)
          clear z1 z2 z3 z4 z5 z6 q4
          go_wp2_with fail
          go_ret2
          rw [HR.out]
          exact ⟨_, rfl, Kd.R_nil _ _ _ _ _, pw_below_drewN HB2.out _⟩
end Go.Proofs.Ytgbcihbnaecejaa.Q

namespace Go.Proofs.Ytgbcihbnaecejaa.Q
open Go Go.RowKit Go.Maps Go.Proofs.YtgbcihbnaecejaaW.PrintWords Go.Proofs.YtgbcihbnaecejaaW.PrintLast Go.Proofs.YtgbcihbnaecejaaW.PrintMore
set_option linter.unusedVariables false
set_option linter.unusedSimpArgs false
def gOf (L : List Od) (n : Int) : Option Value := (L.find? fun x => decide (x.f0 = n)).map odV
theorem gOf_step (acc : List Od) (o : Od) : gOf (acc.filter (fun x => decide (x.f0 ≠ o.f0)) ++ [o]) = putT (gOf acc) o.f0 (odV o) := by
  funext n
  unfold gOf
  rw [List.find?_append]
  by_cases e : n = o.f0
  · subst e
    rw [putT_same]
    have : (acc.filter (fun x => decide (x.f0 ≠ o.f0))).find? (fun x => decide (x.f0 = o.f0)) = none := by
      rw [List.find?_eq_none]
      intro x hx
      have := (List.mem_filter.1 hx).2
      simpa using this
    rw [this]
    simp
  · rw [putT_ne _ _ e]
    have h1 : (acc.filter (fun x => decide (x.f0 ≠ o.f0))).find? (fun x => decide (x.f0 = n)) = acc.find? (fun x => decide (x.f0 = n)) := by
      rw [List.find?_filter]
      congr 1
      funext x
      by_cases h : x.f0 = n
      · subst h; simp [e]
      · simp [h]
    rw [h1]
    cases acc.find? (fun x => decide (x.f0 = n)) with
    | some y => rfl
    | none =>
      have : ¬ o.f0 = n := fun h => e h.symm
      simp [this]
theorem gOf_some {L : List Od} {n : Int} {v : Value} (h : gOf L n = some v) : ∃ o ∈ L, o.f0 = n ∧ v = odV o := by
  unfold gOf at h
  rw [Option.map_eq_some_iff] at h
  obtain ⟨o, h1, rfl⟩ := h
  exact ⟨o, List.mem_of_find?_eq_some h1, by simpa using List.find?_some h1, rfl⟩
theorem gOf_isSome {L : List Od} {o : Od} (h : o ∈ L) : (gOf L o.f0).isSome = true := by
  unfold gOf
  rw [Option.isSome_map, List.find?_isSome]
  exact ⟨o, h, by simp⟩
theorem distinct_eq {C : List Od} (hd : C.Pairwise (fun a b => a.f0 ≠ b.f0)) {a b : Od} (ha : a ∈ C) (hb : b ∈ C) (h : a.f0 = b.f0) : a = b := by
  induction C with
  | nil => cases ha
  | cons c C ih =>
    obtain ⟨h1, h2⟩ := List.pairwise_cons.1 hd
    rcases List.mem_cons.1 ha with e1 | ha'
    · rcases List.mem_cons.1 hb with e2 | hb'
      · rw [e1, e2]
      · rw [e1] at h; exact absurd h (h1 b hb')
    · rcases List.mem_cons.1 hb with e2 | hb'
      · rw [e2] at h; exact absurd h.symm (h1 a ha')
      · exact ih h2 ha' hb'
def Coll (C : List Od) (p : Od → Bool) (seen : List Int) (out : List Od) : Prop := ∃ sO : List Od, sO.map (fun o => o.f0) = seen ∧ (∀ o ∈ sO, o ∈ C) ∧ out = sO.filter p
theorem Coll.nil (C : List Od) (p : Od → Bool) : Coll C p [] [] := ⟨[], rfl, by simp, rfl⟩
theorem Coll.hit {C : List Od} {p : Od → Bool} {seen : List Int} {out : List Od} (h : Coll C p seen out) {o : Od} (ho : o ∈ C) (hp : p o = true) : Coll C p (seen ++ [o.f0]) (out ++ [o]) := by
  obtain ⟨sO, rfl, h2, rfl⟩ := h
  refine ⟨sO ++ [o], by simp, fun x hx => ?_, by simp [hp]⟩
  rcases List.mem_append.1 hx with hx | hx
  · exact h2 x hx
  · rw [List.mem_singleton.1 hx]; exact ho
theorem Coll.miss {C : List Od} {p : Od → Bool} {seen : List Int} {out : List Od} (h : Coll C p seen out) {o : Od} (ho : o ∈ C) (hp : p o = false) : Coll C p (seen ++ [o.f0]) out := by
  obtain ⟨sO, rfl, h2, rfl⟩ := h
  refine ⟨sO ++ [o], by simp, fun x hx => ?_, by simp [hp]⟩
  rcases List.mem_append.1 hx with hx | hx
  · exact h2 x hx
  · rw [List.mem_singleton.1 hx]; exact ho
theorem Coll.perm {C : List Od} {p : Od → Bool} {seen : List Int} {out : List Od} (h : Coll C p seen out) (hd : C.Pairwise (fun a b => a.f0 ≠ b.f0)) (hn : seen.Nodup) (hall : ∀ o ∈ C, o.f0 ∈ seen) : out.Perm (C.filter p) := by
  obtain ⟨sO, rfl, h2, rfl⟩ := h
  refine List.Perm.filter p ?_
  have n1 : sO.Nodup := (List.pairwise_map.1 hn).imp (fun h e => h (by rw [e]))
  have n2 : C.Nodup := hd.imp (fun h e => h (by rw [e]))
  refine (List.perm_ext_iff_of_nodup n1 n2).2 fun o => ⟨h2 o, fun ho => ?_⟩
  obtain ⟨o', h3, h4⟩ := List.mem_map.1 (hall o ho)
  rwa [distinct_eq hd (h2 o' h3) ho h4] at h3
theorem nodup_len : ∀ (a b : List Int), a.Nodup → (∀ x ∈ a, x ∈ b) → a.length ≤ b.length
  | [], b, _, _ => Nat.zero_le _
  | x :: a, b, hn, hs => by
    obtain ⟨h1, h2⟩ := List.nodup_cons.1 hn
    have hx := hs x (List.mem_cons_self ..)
    have h3 := nodup_len a (b.erase x) h2 (fun y hy => by
      have hne : y ≠ x := fun e => h1 (e ▸ hy)
      exact (List.mem_erase_of_ne hne).2 (hs y (List.mem_cons_of_mem _ hy)))
    rw [List.length_erase_of_mem hx] at h3
    have := List.length_pos_of_mem hx
    simp only [List.length_cons]
    omega
theorem Coll.len {C : List Od} {p : Od → Bool} {seen : List Int} {out : List Od} (h : Coll C p seen out) (hn : seen.Nodup) : out.length ≤ C.length := by
  obtain ⟨sO, rfl, h2, rfl⟩ := h
  have h3 := nodup_len (sO.map fun o => o.f0) (C.map fun o => o.f0) hn (fun x hx => by
    obtain ⟨o, ho, rfl⟩ := List.mem_map.1 hx
    exact List.mem_map.2 ⟨o, h2 o ho, rfl⟩)
  rw [List.length_map, List.length_map] at h3
  exact Nat.le_trans (List.length_filter_le _ _) h3
theorem cur_len (q : ByteArray) (known : Int) (l : List Od) : (cur q known l).length ≤ l.length := by
  induction l using snocRec with
  | nil => simp [cur]
  | snoc l o ih =>
    rw [cur_snoc]
    unfold curStep
    have := List.length_filter_le (fun x : Od => decide (x.f0 ≠ o.f0)) (cur q known l)
    split <;> simp only [List.length_append, List.length_singleton] <;> omega
def orders_Open.f (l0 : List Od) (a1 : ByteArray) (a2 : Int) (a3 : Int) : Option (List Od) := some (openO l0 a1 a2 a3)
def OInv (l : List Od) (p : ByteArray) (kn : Int) (w w1 : World) (k : Nat) (wr : World) : Prop :=
  MapT Try.prog 3 okI litI wr w1.heap.size k (gOf (cur p kn (l.take k))) ∧ Below w1.heap.size w1 wr
def OInv2 (C : List Od) (month : Int) (w w1 : World) (r n : Nat) (v : Value) (wr : World) : Prop :=
  ∃ seen cnt out, RangeT Try.prog 3 okI litI wr w1.heap.size r n (gOf C) seen cnt ∧ Coll C (isOpen month) seen out ∧ wr.ownsRow (r + 1) 24 8 v out.length (out.flatMap odEnc) ∧ Below w1.heap.size w1 wr ∧ r < wr.heap.size
theorem od_new (o : Od) {W : World} {b : Nat} (hb : W.heap.size = b) : ∀ j u, (odEnc o)[j]? = some u → (W.alloc (.cells #[.int .i64 o.f0, .string o.f1, .string o.f2, .int .i64 o.f3, .int .i64 o.f4, .int .i64 o.f5, .int .i64 o.f6, .bool o.f7] 24)).cell? ((⟨b, 0, none⟩ : Addr).add j) = some u := by
  intro j u hu
  subst hb
  rw [Addr.add_lit, Nat.zero_add, blk_cell (World.alloc_heap_new W (.cells #[.int .i64 o.f0, .string o.f1, .string o.f2, .int .i64 o.f3, .int .i64 o.f4, .int .i64 o.f5, .int .i64 o.f6, .bool o.f7] 24)) j, ← hu]
  simp [odEnc]
theorem od_one (o : Od) : ∀ u ∈ odEnc o, u.oneCell' = true := od_flat.one o
set_option maxRecDepth 100000 in
set_option maxHeartbeats 8000000 in
theorem open_valid (A0 : Option Addr) (c0 : Nat) (l0 : List Od) (p : ByteArray) (month kn : Int) (w : World) (hr0 : Kd.C k24 w A0 l0.length l0) (hc0 : l0.length ≤ c0) (hv : valid l0 = true) :
    Calls Try.prog 17 #[.slice A0 l0.length c0, .string p, .int .i64 month, .int .i64 kn] w fun e w' => ∃ v0_ : Value, e = .returned (v0_) ∧ Kd.R k24 24 w' w.heap.size (fun _ => True) v0_ (openO l0 p month kn) ∧ Below w.heap.size w w' := by
  have HC := Lib.hid hr0
  have HL := Lib.hid hc0
  have HVV := Lib.hid hv
  have hlen := ((valid_iff l0).1 hv).1
  have HG := Lib.hid ((valid_iff l0).1 hv).2
  have HVC := Lib.hid (hv ▸ valid_any A0 c0 l0 w hr0 hc0)
  have hmm := @run_makeMap Try.prog
  clear hr0 hc0 hv
  go_enter Try.func17, Try.ntmps17
  go_wp2_with (go_at_call 14; refine HVC.out.mono ?_; rintro e w1 ⟨rfl, hb⟩; have HB := Lib.hid hb; clear hb)
  go_loopw [21] (fun i wr => ∃ k : Nat, k ≤ l0.length ∧ i = .int .i64 k ∧ OInv l0 p kn w w1 k wr) (fun i _ => l0.length - (intOf i).toNat)
  case atStart => exact ⟨0, Nat.zero_le _, rfl, MapT.made _ _ _ _ _, below_alloc (Below.refl _ _) _⟩
  case round =>
    obtain ⟨k, hk, rfl, hI⟩ := hrel
    by_cases hlt : k < l0.length
    · have HI := Lib.hid hI
      obtain ⟨ad, rfl, a0, a1, a2, a3, a4, a5, a6, a7⟩ := od_cells (Kd.C_below (Kd.C_below HC.out HB.out) HI.out.2) hlt
      have hmem := odAt_mem hlt
      have HT := Lib.hid (take_odAt hlt)
      generalize ho : odAt l0 k = o at *
      have HO := Lib.hid ho
      have hff := FOk.of (HG.out.formed o hmem)
      have okn : okI o.f0 := WalkArith.wf_i64 (by have := hff.f0; omega)
      have HOK := Lib.hid okn
      have hkm : k < maxLen := by unfold maxLen; omega
      have HKM := Lib.hid hkm
      clear ho hI hmem hff okn hkm
      by_cases hp : o.f1 = p
      · have HP := Lib.hid hp
        rw [hp] at a1
        clear hp
        by_cases hkn : o.f4 ≤ kn
        · have z1 : decide (o.f4 ≤ kn) = true := decide_eq_true hkn
          go_wp2_with (first
            | (at_mapUpdate; refine wpList_storeT keyI rfl _ _ _ 33 24 rfl Try.underlying33 w1.heap.size k (gOf (cur p kn (l0.take k))) o.f0 (odV ⟨o.f0, p, o.f2, o.f3, o.f4, o.f5, o.f6, o.f7⟩) rfl rfl rfl (HI.out.1.alloc _) HKM.out HOK.out ?_; intro w2 m2 k2)
            | go_in)
          go_roundw
          case rel =>
            refine ⟨k + 1, by omega, by go_num, ?_, Below.trans HI.out.2 (Below.trans (below_alloc (Below.refl _ _) _ |>.mono HI.out.2.size) (k2.below (B := w1.heap.size) (by have := HI.out.2.size; simp; omega) (fun i h => by have h2 : i = w1.heap.size := h; omega)))⟩
            have e : cur p kn (l0.take (k + 1)) = (cur p kn (l0.take k)).filter (fun x => decide (x.f0 ≠ o.f0)) ++ [o] := by
              rw [HT.out, cur_snoc]
              exact if_pos ⟨HP.out, hkn⟩
            rw [e, gOf_step]
            have e2 : odV ⟨o.f0, p, o.f2, o.f3, o.f4, o.f5, o.f6, o.f7⟩ = odV o := by rw [← HP.out]
            rw [← e2]
            exact m2
          case measure => simp [intOf]; omega
        · have z1 : decide (o.f4 ≤ kn) = false := decide_eq_false hkn
          have HKN := Lib.hid hkn
          clear hkn
          go_wp2_with fail
          go_roundw
          case rel =>
            refine ⟨k + 1, by omega, by go_num, ?_, below_alloc HI.out.2 _⟩
            have e : cur p kn (l0.take (k + 1)) = cur p kn (l0.take k) := by
              rw [HT.out, cur_snoc]
              exact if_neg (fun h => HKN.out h.2)
            rw [e]
            exact (HI.out.1.alloc _).mono (by omega)
          case measure => simp [intOf]; omega
      · have ne : ¬ o.f1.toList = p.toList := fun h => hp (str_eq.1 h)
        have ne' : (o.f1.toList == p.toList) = false := beq_eq_false_iff_ne.2 ne
        have HP := Lib.hid hp
        clear hp
        go_wp2_with fail
        go_roundw
        case rel =>
          refine ⟨k + 1, by omega, by go_num, ?_, below_alloc HI.out.2 _⟩
          have e : cur p kn (l0.take (k + 1)) = cur p kn (l0.take k) := by
            rw [HT.out, cur_snoc]
            exact if_neg (fun h => HP.out h.1)
          rw [e]
          exact (HI.out.1.alloc _).mono (by omega)
        case measure => simp [intOf]; omega
    · obtain rfl : k = l0.length := by omega
      unfold OInv at hI
      rw [List.take_length] at hI
      have hC1 := cur_distinct p kn l0
      have hC2 := fun o (ho : o ∈ cur p kn l0) => FOk.of (HG.out.formed o (cur_mem ho).1)
      have hC3 := cur_len p kn l0
      have HF := Lib.hid (show openO l0 p month kn = sortO ((cur p kn l0).filter (isOpen month)) from by unfold openO; rw [if_pos HVV.out])
      generalize hC : cur p kn l0 = C at *
      have HD := Lib.hid (And.intro hC1 (And.intro hC2 hC3))
      have HI := Lib.hid hI
      clear hC hC1 hC2 hC3 hI
      obtain ⟨wq, hwq⟩ : ∃ wq : World, wq = wr := ⟨_, rfl⟩
      subst hwq
      go_wp2_with (first
        | (at_range; refine wpList_rangeT keyI rfl _ 33 24 rfl Try.underlying33 w1.heap.size l0.length (gOf C) rfl HI.out.1 ?_; intro w0 cnt hr0 hc0 hk0 hs0)
        | go_in)
      go_frame
      have HR0 := Lib.hid (And.intro hr0 (And.intro hk0 hs0))
      clear hr0 hk0 hs0 hc0
      go_loopw [12] (fun v wr => OInv2 C month w w1 wq.heap.size l0.length v wr) (fun _ wr => wr.rangeLeft w1.heap.size wq.heap.size)
      case atStart => exact ⟨[], cnt, [], HR0.out.1, Coll.nil _ _, World.ownsRow_nil _ _ _ _, Below.trans HI.out.2 (HR0.out.2.1.below HI.out.2.size (fun k h => h.elim)), by have := HR0.out.2.2; omega⟩
      case round =>
        obtain ⟨seen, cnt1, out, h1, h2, h3, h4, h5⟩ := hrel
        have H := Lib.hid (And.intro h1 (And.intro h2 (And.intro h3 (And.intro h4 h5))))
        clear h1 h2 h3 h4 h5
        go_wp2_with (first
          | (at_next; refine wpList_nextT keyI rfl _ rfl w1.heap.size wq.heap.size l0.length (gOf C) seen cnt1 rfl H.out.1 ?_ ?_)
          | go_in)
        · intro hall
          have HA := Lib.hid hall
          clear hall
          have hnd := H.out.1.nodup.1
          have hP := H.out.2.1.perm HD.out.1 hnd (fun o ho => HA.out o.f0 (WalkArith.wf_i64 (by have := (HD.out.2.1 o ho).f0; omega)) (gOf_isSome ho))
          have hdC := HD.out.1.filter (isOpen month)
          have hdO : out.Pairwise (fun a b => a.f0 ≠ b.f0) := hP.symm.pairwise hdC (fun {a b} h e => h e.symm)
          have hlO := Nat.le_trans (H.out.2.1.len hnd) HD.out.2.2
          have HEQ := Lib.hid (show sortO out = openO l0 p month kn from by rw [HF.out]; exact sortO_of_perm hdC ((sortO_perm out).trans hP) (sortO_sorted hdO))
          have hwl : w.heap.size ≤ wq.heap.size + 1 := by have := HB.out.size; have := HI.out.2.size; omega
          have HS := Lib.hid (And.intro (own_weaken H.out.2.2.1 hwl) (And.intro hdO hlO))
          have HBW := Lib.hid (Below.trans HB.out (H.out.2.2.2.1.mono HB.out.size))
          clear hnd hP hdC hdO hlO hwl
          go_wp2_with fail
          refine (od_sort_c HS.out.1 HS.out.2.1 (by have := HS.out.2.2; omega)).mono ?_
          rintro e w3 ⟨rfl, hR, hg⟩
          rw [HEQ.out] at hR
          have HR := Lib.hid (And.intro hR (Below.grown HBW.out hg HBW.out.size (fun k hk => (HS.out.1.lt k hk).1)))
          clear hR hg
          go_wp2_with fail
          go_ret
          exact ⟨_, rfl, HR.out.1, HR.out.2⟩
        · intro x v w2 cnt2 hx hns hgx hr2 hlt hk2 hs2 hen
          obtain ⟨o, hoC, hox, hv⟩ := gOf_some hgx
          subst hox
          subst hv
          have ho := HD.out.2.1 o hoC
          have HN := Lib.hid (And.intro hr2 (And.intro hlt hk2))
          have HOC := Lib.hid hoC
          have HH := Lib.hid (own_KB H.out.2.2.1 hk2 (fun k h => by have h2 : k = wq.heap.size := h; omega))
          have HBW := Lib.hid (show Below w1.heap.size w1 w2 from Below.trans H.out.2.2.2.1 (hk2.below H.out.2.2.2.1.size (fun k h => by have h2 : k = wq.heap.size := h; have := HI.out.2.size; omega)))
          have hrs : wq.heap.size < wr.heap.size := H.out.2.2.2.2
          have HLN := Lib.hid (H.out.2.1.len H.out.1.nodup.1)
          clear hr2 hlt hk2 hoC hx hns hgx
          by_cases c5 : o.f5 ≤ month
          · have z5 : decide (o.f5 ≤ month) = true := decide_eq_true c5
            by_cases c6 : 0 < o.f6
            · have z6 : decide (0 < o.f6) = true := decide_eq_true c6
              have HP := Lib.hid (show isOpen month o = true from decide_eq_true ⟨c5, c6⟩)
              obtain ⟨i0, hi, hz0, hz1, hz2⟩ := info_parts info24
              have HII := Lib.hid (And.intro hi (And.intro hz0 (And.intro hz1 hz2)))
              have HS2 := Lib.hid hs2
              clear c5 c6 ho hi hz0 hz1 hz2
              go_wp2_with (first
                | (at_builtin; refine wpList_append_own _ rfl _ _ 22 rfl (wq.heap.size + 1) 24 i0 _ 8 80 Try.underlying22 HII.out.1 HII.out.2.1 HII.out.2.2.1 HII.out.2.2.2 rfl (by decide) _ out.length (out.flatMap odEnc) rfl ((HH.out.alloc _).alloc _) ⟨wr.heap.size + 1, 0, none⟩ 1 1 (odEnc o) rfl rfl (od_new o (by simp [HS2.out])) (od_one o) (by have := HLN.out; have := HD.out.2.2; unfold maxLen; omega) (by have := HLN.out; have := HD.out.2.2; omega) (by simp [HS2.out]; omega) ?_; intro v' w3 hown' hgrow _; have HW3 := Lib.hid (And.intro hown' (KB.of_append (Mine := NoB) (L := wq.heap.size + 1) (HH.out.alloc _) (Nat.le_refl _) hgrow)); clear hown' hgrow)
                | go_in)
              have hkb := KB.trans' (S := fun k => wq.heap.size + 1 ≤ k) ((KB.refl _ w2).alloc (.cells #[.int .i64 o.f0, .string o.f1, .string o.f2, .int .i64 o.f3, .int .i64 o.f4, .int .i64 o.f5, .int .i64 o.f6, .bool o.f7] 24)) HW3.out.2 (fun i h _ => by rcases h with h | h; exact h.elim; exact h.1)
              have hq : w1.heap.size < wq.heap.size := HI.out.1.lt
              have hr3 := HN.out.1.kb hkb (by show ¬ wq.heap.size + 1 ≤ w1.heap.size; omega) (by show ¬ wq.heap.size + 1 ≤ wq.heap.size; omega)
              have hown3 := HW3.out.1
              have efl : out.flatMap odEnc ++ odEnc o = (out ++ [o]).flatMap odEnc := by simp
              have elen : out.length + 1 = (out ++ [o]).length := by simp
              rw [efl, elen] at hown3
              have HR3 := Lib.hid (And.intro hr3 (And.intro hown3 (And.intro (Below.trans HBW.out (hkb.below (B := w1.heap.size) HBW.out.size (fun k h => by have h2 : wq.heap.size + 1 ≤ k := h; omega))) (show wq.heap.size < w3.heap.size from by have := hkb.size; have := HS2.out; omega))))
              clear hkb hq hr3 hown3 efl elen
              go_roundw
              case rel => exact ⟨_, _, out ++ [o], HR3.out.1, H.out.2.1.hit HOC.out HP.out, HR3.out.2.1, HR3.out.2.2.1, HR3.out.2.2.2⟩
              case measure => rw [HR3.out.1.left_eq, H.out.1.left_eq]; exact HN.out.2.1
            · have z6 : decide (0 < o.f6) = false := decide_eq_false c6
              have HP := Lib.hid (show isOpen month o = false from decide_eq_false (fun h => c6 h.2))
              clear c5 c6 ho
              go_wp2_with fail
              have hr3 := HN.out.1.kb (S := NoB) ((KB.refl _ _).alloc (.cells #[.int .i64 o.f0, .string o.f1, .string o.f2, .int .i64 o.f3, .int .i64 o.f4, .int .i64 o.f5, .int .i64 o.f6, .bool o.f7] 24)) (fun h => h) (fun h => h)
              have HR3 := Lib.hid hr3
              clear hr3
              go_roundw
              case rel => exact ⟨_, _, out, HR3.out, H.out.2.1.miss HOC.out HP.out, HH.out.alloc _, below_alloc HBW.out _, by simp [hs2]; omega⟩
              case measure => rw [HR3.out.left_eq, H.out.1.left_eq]; exact HN.out.2.1
          · have z5 : decide (o.f5 ≤ month) = false := decide_eq_false c5
            have HP := Lib.hid (show isOpen month o = false from decide_eq_false (fun h => c5 h.1))
            clear c5 ho
            go_wp2_with fail
            have hr3 := HN.out.1.kb (S := NoB) ((KB.refl _ _).alloc (.cells #[.int .i64 o.f0, .string o.f1, .string o.f2, .int .i64 o.f3, .int .i64 o.f4, .int .i64 o.f5, .int .i64 o.f6, .bool o.f7] 24)) (fun h => h) (fun h => h)
            have HR3 := Lib.hid hr3
            clear hr3
            go_roundw
            case rel => exact ⟨_, _, out, HR3.out, H.out.2.1.miss HOC.out HP.out, HH.out.alloc _, below_alloc HBW.out _, by simp [hs2]; omega⟩
            case measure => rw [HR3.out.left_eq, H.out.1.left_eq]; exact HN.out.2.1
set_option maxRecDepth 100000 in
set_option maxHeartbeats 8000000 in
theorem open_bad (A0 : Option Addr) (c0 : Nat) (l0 : List Od) (p : ByteArray) (month kn : Int) (w : World) (hr0 : Kd.C k24 w A0 l0.length l0) (hc0 : l0.length ≤ c0) (hv : valid l0 = false) :
    Calls Try.prog 17 #[.slice A0 l0.length c0, .string p, .int .i64 month, .int .i64 kn] w fun e w' => ∃ v0_ : Value, e = .returned (v0_) ∧ Kd.R k24 24 w' w.heap.size (fun _ => True) v0_ (openO l0 p month kn) ∧ Below w.heap.size w w' := by
  have HVC := Lib.hid (hv ▸ valid_any A0 c0 l0 w hr0 hc0)
  have HF := Lib.hid (show openO l0 p month kn = [] from by unfold openO; rw [if_neg (by rw [hv]; simp)])
  clear hr0 hc0 hv
  go_enter Try.func17, Try.ntmps17
  go_wp2_with (go_at_call 14; refine HVC.out.mono ?_; rintro e w1 ⟨rfl, hb⟩; have HB := Lib.hid hb; clear hb)
  go_ret
  exact ⟨_, rfl, by rw [HF.out]; exact Kd.R_nil _ _ _ _ _, HB.out⟩
theorem orders_Open.calls (A0 : Option Addr) (c0 : Nat) (l0 : List Od) (a1 : ByteArray) (a2 : Int) (a3 : Int) (r : List Od) (w : World) (hr0 : Kd.C k24 w A0 l0.length l0) (hc0 : l0.length ≤ c0) (h : orders_Open.f l0 a1 a2 a3 = some r) :
    Calls Try.prog 17 #[.slice A0 l0.length c0, .string a1, .int .i64 a2, .int .i64 a3] w fun e w' => ∃ v0_ : Value, e = .returned (v0_) ∧ Kd.R k24 24 w' w.heap.size (fun _ => True) v0_ r ∧ Below w.heap.size w w' := by
  injection h with h
  subst h
  cases hv : valid l0 with
  | true => exact open_valid A0 c0 l0 a1 a2 a3 w hr0 hc0 hv
  | false => exact open_bad A0 c0 l0 a1 a2 a3 w hr0 hc0 hv
end Go.Proofs.Ytgbcihbnaecejaa.Q

namespace Go.Proofs.Ytgbcihbnaecejaa.Q
open Go Go.RowKit Go.Proofs.YtgbcihbnaecejaaW.PrintWords Go.Proofs.YtgbcihbnaecejaaW.PrintLast Go.Proofs.YtgbcihbnaecejaaW.PrintMore
set_option linter.unusedVariables false
set_option linter.unusedSimpArgs false
def Keep (P : World → Prop) (W : World) : Prop := P W ∧ ∀ W1 W2, P W1 → Below W1.heap.size W1 W2 → P W2
theorem Keep.step {P : World → Prop} {W W' : World} (h : Keep P W) (hb : Below W.heap.size W W') : Keep P W' := ⟨h.2 _ _ h.1 hb, h.2⟩
theorem Keep.and {P Q : World → Prop} {W : World} (h : Keep P W) (k : Keep Q W) : Keep (fun w => P w ∧ Q w) W := ⟨⟨h.1, k.1⟩, fun W1 W2 a b => ⟨h.2 _ _ a.1 b, k.2 _ _ a.2 b⟩⟩
theorem Keep.C {α : Type} {d : Kd α} {W : World} {A : Option Addr} {n : Nat} {l : List α} (h : Kd.C d W A n l) : Keep (fun w => Kd.C d w A n l) W := ⟨h, fun W1 W2 a b => Kd.C_below a b⟩
theorem Keep.below {w W : World} (h : Below w.heap.size w W) : Keep (fun W => Below w.heap.size w W) W := ⟨h, fun W1 W2 a b => below_step a b⟩
theorem Keep.cell {W : World} {a : Addr} {v : Value} (h : W.cell? a = some v) : Keep (fun w => w.cell? a = some v) W := ⟨h, fun W1 W2 a b => pw_cell_below b a⟩
theorem Keep.blk {W : World} {b : Nat} {o : Obj} (h : W.heap[b]? = some o) : Keep (fun w => w.heap[b]? = some o) W := ⟨h, fun W1 W2 a b => blk_below a b⟩
theorem Keep.alloc {P : World → Prop} {W : World} (h : Keep P W) (o : Obj) : Keep P (W.alloc o) := h.step (below_alloc (Below.refl _ _) o)
theorem Keep.drewN {P : World → Prop} {W : World} (h : Keep P W) (n : Nat) : Keep P (W.drewN n) := h.step (pw_below_drewN (Below.refl _ _) n)
abbrev oth : Od := ⟨7, (⟨#[97, 110, 110, 97]⟩ : ByteArray), (⟨#[115, 104, 111, 112]⟩ : ByteArray), 2, 30, 0, 0, false⟩
theorem addr_zero (a : Addr) : a.add 0 = a := by simp [Addr.add]
abbrev hOd (n r k c : Int) : Od := ⟨n, (⟨#[97, 110, 110, 97]⟩ : ByteArray), (⟨#[98, 97, 110, 107]⟩ : ByteArray), r, k, 0, c, false⟩
theorem order_c (a0 a1 a2 a3 : Int) (w : World) : Calls Try.prog 19 #[.int .i64 a0, .int .i64 a1, .int .i64 a2, .int .i64 a3] w fun e w' => e = .returned (.agg #[.int .i64 a0, .string (⟨#[97, 110, 110, 97]⟩ : ByteArray), .string (⟨#[98, 97, 110, 107]⟩ : ByteArray), .int .i64 a1, .int .i64 a2, .int .i64 0, .int .i64 a3, .bool false]) ∧ Below w.heap.size w w' :=
  wageofficelaw31_order.calls a0 a1 a2 a3 _ _ _ _ _ _ _ _ w rfl
set_option maxRecDepth 100000 in
theorem hx1 : (recO [hOd 7 2 10 500, hOd 3 1 20 900] (hOd 7 2 30 0)).2 = 0 := by decide +kernel
set_option maxRecDepth 100000 in
theorem hx2 : (recO [hOd 7 2 10 500, hOd 3 1 20 900, hOd 7 2 30 0] (hOd 7 2 29 0)).2 = 6 := by decide +kernel
set_option maxRecDepth 100000 in
theorem hx3 : (recO [hOd 7 2 10 500, hOd 3 1 20 900, hOd 7 2 30 0] ⟨7, (⟨#[97, 110, 110, 97]⟩ : ByteArray), (⟨#[115, 104, 111, 112]⟩ : ByteArray), 2, 30, 0, 0, false⟩).2 = 311 := by decide +kernel
set_option maxRecDepth 100000 in
theorem hx4 : (recO [hOd 7 2 10 500, hOd 3 1 20 900, hOd 7 2 30 0] (hOd 0 1 30 1)).2 = 1 := by decide +kernel
set_option maxRecDepth 100000 in
theorem hx5 : (openO [hOd 7 2 10 500, hOd 3 1 20 900, hOd 7 2 30 0] (⟨#[97, 110, 110, 97]⟩ : ByteArray) 0 9).length = 0 := by decide +kernel
set_option maxRecDepth 100000 in
theorem hx6 : (openO [hOd 7 2 10 500, hOd 3 1 20 900, hOd 7 2 30 0] (⟨#[97, 110, 110, 97]⟩ : ByteArray) 0 25).length = 2 ∧ (odAt (openO [hOd 7 2 10 500, hOd 3 1 20 900, hOd 7 2 30 0] (⟨#[97, 110, 110, 97]⟩ : ByteArray) 0 25) 0).f0 = 3 ∧ (odAt (openO [hOd 7 2 10 500, hOd 3 1 20 900, hOd 7 2 30 0] (⟨#[97, 110, 110, 97]⟩ : ByteArray) 0 25) 1).f6 = 500 := by decide +kernel
set_option maxRecDepth 100000 in
theorem hx7 : (openO [hOd 7 2 10 500, hOd 3 1 20 900, hOd 7 2 30 0] (⟨#[97, 110, 110, 97]⟩ : ByteArray) 0 30).length = 1 := by decide +kernel
set_option maxRecDepth 100000 in
theorem hx8 : valid [hOd 7 2 10 500, hOd 3 1 20 900, hOd 7 2 30 0] = true ∧ valid [⟨7, (⟨#[97, 110, 110, 97]⟩ : ByteArray), (⟨#[115, 104, 111, 112]⟩ : ByteArray), 2, 30, 0, 0, false⟩, hOd 7 2 10 500] = false := by decide +kernel
theorem hx9 : (recO [hOd 7 2 10 500, hOd 3 1 20 900] (hOd 7 2 30 0)).1 = [hOd 7 2 10 500, hOd 3 1 20 900, hOd 7 2 30 0] := by
  have h := hx1
  unfold recO at h ⊢
  by_cases h1 : valid [hOd 7 2 10 500, hOd 3 1 20 900] = true ∧ formedOk (hOd 7 2 30 0) = true
  · rw [if_pos h1] at h ⊢
    by_cases h2 : lastLe [hOd 7 2 10 500, hOd 3 1 20 900] (hOd 7 2 30 0) = true
    · rw [if_pos h2] at h ⊢
      by_cases h3 : sameParties [hOd 7 2 10 500, hOd 3 1 20 900] (hOd 7 2 30 0) = true
      · rw [if_pos h3] at h ⊢
        by_cases h4 : valid ([hOd 7 2 10 500, hOd 3 1 20 900] ++ [hOd 7 2 30 0]) = true
        · rw [if_pos h4]
          rfl
        · rw [if_neg h4] at h; simp at h
      · rw [if_neg h3] at h; simp at h
    · rw [if_neg h2] at h; simp at h
  · rw [if_neg h1] at h; simp at h
theorem record_c (A : Option Addr) (n c : Nat) (L : List Od) (o : Od) (m : Int) (w : World) (hr : Kd.C k24 w A L.length L) (hn : L.length = n) (hc : n ≤ c) (h2 : (recO L o).2 = m) :
    Calls Try.prog 12 #[.slice A n c, .agg #[.int .i64 o.f0, .string o.f1, .string o.f2, .int .i64 o.f3, .int .i64 o.f4, .int .i64 o.f5, .int .i64 o.f6, .bool o.f7]] w fun e w' => ∃ v : Value, e = .returned (.tuple #[v, .int .i64 m]) ∧ Kd.R k24 24 w' w.heap.size (fun _ => True) v (recO L o).1 ∧ Below w.heap.size w w' := by
  subst h2
  subst hn
  exact record_any A c L o w hr hc
theorem valid_n (A : Option Addr) (n c : Nat) (L : List Od) (b : Bool) (w : World) (hr : Kd.C k24 w A L.length L) (hn : L.length = n) (hc : n ≤ c) (hb : valid L = b) :
    Calls Try.prog 14 #[.slice A n c] w fun e w' => e = .returned (.bool b) ∧ Below w.heap.size w w' := by
  subst hn
  subst hb
  exact valid_any A c L w hr hc
theorem C_two {W : World} {b : Nat} {o p : Od} (h : W.heap[b]? = some (.cells #[.int .i64 o.f0, .string o.f1, .string o.f2, .int .i64 o.f3, .int .i64 o.f4, .int .i64 o.f5, .int .i64 o.f6, .bool o.f7, .int .i64 p.f0, .string p.f1, .string p.f2, .int .i64 p.f3, .int .i64 p.f4, .int .i64 p.f5, .int .i64 p.f6, .bool p.f7] 24 (0, 0))) : Kd.C k24 W (some ⟨b, 0, none⟩) [o, p].length [o, p] := by
  refine ⟨rfl, by simp, fun _ => ⟨_, rfl, fun j q hq => ?_⟩⟩
  match j, hq with
  | 0, hq =>
    simp at hq
    subst hq
    refine ⟨_, rfl, k24_mk W o, fun i u hu => ?_⟩
    have hi : i < 8 := (List.getElem?_eq_some_iff.1 hu).1
    obtain rfl | rfl | rfl | rfl | rfl | rfl | rfl | rfl : i = 0 ∨ i = 1 ∨ i = 2 ∨ i = 3 ∨ i = 4 ∨ i = 5 ∨ i = 6 ∨ i = 7 := by omega
    · exact (blk_cell h 0).trans hu
    · exact (blk_cell h 1).trans hu
    · exact (blk_cell h 2).trans hu
    · exact (blk_cell h 3).trans hu
    · exact (blk_cell h 4).trans hu
    · exact (blk_cell h 5).trans hu
    · exact (blk_cell h 6).trans hu
    · exact (blk_cell h 7).trans hu
  | 1, hq =>
    simp at hq
    subst hq
    refine ⟨_, rfl, k24_mk W p, fun i u hu => ?_⟩
    have hi : i < 8 := (List.getElem?_eq_some_iff.1 hu).1
    obtain rfl | rfl | rfl | rfl | rfl | rfl | rfl | rfl : i = 0 ∨ i = 1 ∨ i = 2 ∨ i = 3 ∨ i = 4 ∨ i = 5 ∨ i = 6 ∨ i = 7 := by omega
    · exact (blk_cell h 8).trans hu
    · exact (blk_cell h 9).trans hu
    · exact (blk_cell h 10).trans hu
    · exact (blk_cell h 11).trans hu
    · exact (blk_cell h 12).trans hu
    · exact (blk_cell h 13).trans hu
    · exact (blk_cell h 14).trans hu
    · exact (blk_cell h 15).trans hu
  | j + 2, hq => simp at hq
def wageofficelaw31_head.f : Option Bool := some true
set_option maxRecDepth 100000 in
set_option maxHeartbeats 4000000 in
theorem head_any (w : World) : Calls Try.prog 10 #[] w fun e w' => e = .returned (.bool true) ∧ Below w.heap.size w w' := by
  have HP := Lib.hid (Keep.below (Below.refl w.heap.size w))
  obtain ⟨L2, hL2⟩ : ∃ L2, L2 = [hOd 7 2 10 500, hOd 3 1 20 900] := ⟨_, rfl⟩
  have HL2 := Lib.hid hL2
  clear hL2
  go_enter Try.func10, Try.ntmps10
  go_wp2_with fail
  refine (order_c _ _ _ _ _).mono ?_
  rintro e w1 ⟨rfl, hb⟩
  have HP1 := Lib.hid (HP.out.step hb)
  clear hb HP
  go_wp2_with fail
  refine (order_c _ _ _ _ _).mono ?_
  rintro e w2 ⟨rfl, hb⟩
  have HP2 := Lib.hid (HP1.out.step hb)
  clear hb HP1
  go_wp2_with fail
  refine (order_c _ _ _ _ _).mono ?_
  rintro e w3 ⟨rfl, hb⟩
  have HP3 := Lib.hid (((HP2.out.alloc _).and (Keep.C (C_two (o := hOd 7 2 10 500) (p := hOd 3 1 20 900) (World.alloc_heap_new w2 _)))).step hb)
  clear hb HP2
  go_wp2_with fail
  refine (record_c _ 2 2 [hOd 7 2 10 500, hOd 3 1 20 900] (hOd 7 2 30 0) _ _ HP3.out.1.2 rfl (by omega) hx1).mono ?_
  rintro e w4 ⟨v, rfl, hR, hb⟩
  rw [hx9] at hR
  obtain ⟨L3, hL3⟩ : ∃ L3, L3 = [hOd 7 2 10 500, hOd 3 1 20 900, hOd 7 2 30 0] := ⟨_, rfl⟩
  rw [← hL3] at hR
  have y2 := hx2
  have y3 := hx3
  have y4 := hx4
  have y5 := hx5
  have y6 := hx6
  have y7 := hx7
  have y8 := hx8
  have ylen : L3.length = 3 := by rw [hL3]; rfl
  have yat : odAt L3 0 = hOd 7 2 10 500 := by rw [hL3]; rfl
  rw [← hL3] at y2 y3 y4 y5 y6 y7 y8
  obtain ⟨A, c, e1⟩ := Kd.R_slice hR
  subst e1
  have HY := Lib.hid (And.intro y2 (And.intro y3 (And.intro y4 (And.intro y5 (And.intro y6 (And.intro y7 (And.intro y8 (And.intro ylen yat))))))))
  have HLC := Lib.hid (Kd.R_reads' hR).2.1
  have HP4 := Lib.hid ((HP3.out.step hb).and (Keep.C (Kd.R_reads' hR).2.2))
  clear hb hR hL3 y2 y3 y4 y5 y6 y7 y8 ylen yat HP3
  generalize hOa : openO L3 (⟨#[97, 110, 110, 97]⟩ : ByteArray) 0 9 = La at *
  generalize hOb : openO L3 (⟨#[97, 110, 110, 97]⟩ : ByteArray) 0 25 = Lb at *
  generalize hOc : openO L3 (⟨#[97, 110, 110, 97]⟩ : ByteArray) 0 30 = Lc at *
  have HOa := Lib.hid hOa
  have HOb := Lib.hid hOb
  have HOc := Lib.hid hOc
  clear hOa hOb hOc
  go_wp2_with fail
  refine (orders_Open.calls A c L3 (⟨#[97, 110, 110, 97]⟩ : ByteArray) 0 9 La _ HP4.out.1.2 HLC.out (congrArg some HOa.out)).mono ?_
  rintro e w5 ⟨va, rfl, hR, hb⟩
  obtain ⟨Aa, ca, e1⟩ := Kd.R_slice hR
  subst e1
  have HP5 := Lib.hid ((HP4.out.step hb).and (Keep.C (Kd.R_reads' hR).2.2))
  clear hb hR HP4
  go_wp2_with fail
  refine (orders_Open.calls A c L3 (⟨#[97, 110, 110, 97]⟩ : ByteArray) 0 25 Lb _ HP5.out.1.1.2 HLC.out (congrArg some HOb.out)).mono ?_
  rintro e w6 ⟨vb, rfl, hR, hb⟩
  obtain ⟨Ab, cb, e1⟩ := Kd.R_slice hR
  subst e1
  have HP6 := Lib.hid ((HP5.out.step hb).and (Keep.C (Kd.R_reads' hR).2.2))
  clear hb hR HP5
  go_wp2_with fail
  refine (orders_Open.calls A c L3 (⟨#[97, 110, 110, 97]⟩ : ByteArray) 0 30 Lc _ HP6.out.1.1.1.2 HLC.out (congrArg some HOc.out)).mono ?_
  rintro e w7 ⟨vc, rfl, hR, hb⟩
  obtain ⟨Ac, cc, e1⟩ := Kd.R_slice hR
  subst e1
  have HP7 := Lib.hid (HP6.out.step hb)
  clear hb hR HP6
  go_wp2_with fail
  refine (order_c _ _ _ _ _).mono ?_
  rintro e w8 ⟨rfl, hb⟩
  have HP8 := Lib.hid (HP7.out.step hb)
  clear hb HP7
  go_wp2_with fail
  refine (record_c A L3.length c L3 (hOd 7 2 29 0) 6 _ HP8.out.1.1.1.2 rfl HLC.out HY.out.1).mono ?_
  rintro e w9 ⟨vd, rfl, hR, hb⟩
  have HP9 := Lib.hid (HP8.out.step hb)
  clear hb hR HP8
  go_wp2_with fail
  refine (order_c _ _ _ _ _).mono ?_
  rintro e w10 ⟨rfl, hb⟩
  have HP10 := Lib.hid (HP9.out.step hb)
  clear hb HP9
  go_wp2_with fail
  refine (record_c A L3.length c L3 oth 311 _ (HP10.out.alloc _).1.1.1.2 rfl HLC.out HY.out.2.1).mono ?_
  rintro e w11 ⟨ve, rfl, hR, hb⟩
  have HP11 := Lib.hid (((HP10.out.alloc _).and (Keep.blk (World.alloc_heap_new w10 (.cells #[.int .i64 7, .string (⟨#[97, 110, 110, 97]⟩ : ByteArray), .string (⟨#[115, 104, 111, 112]⟩ : ByteArray), .int .i64 2, .int .i64 30, .int .i64 0, .int .i64 0, .bool false] 24)))).step hb)
  clear hb hR HP10
  go_wp2_with fail
  refine (order_c _ _ _ _ _).mono ?_
  rintro e w12 ⟨rfl, hb⟩
  have HP12 := Lib.hid (HP11.out.step hb)
  clear hb HP11
  go_wp2_with fail
  refine (record_c A L3.length c L3 (hOd 0 1 30 1) 1 _ HP12.out.1.1.1.1.2 rfl HLC.out HY.out.2.2.1).mono ?_
  rintro e w13 ⟨vf, rfl, hR, hb⟩
  have HP13 := Lib.hid (HP12.out.step hb)
  clear hb hR HP12
  have HCL := Lib.hid HP13.out.1.1.1.1.2
  obtain ⟨adl, rfl, l0, l1, l2, l3, l4, l5, l6, l7⟩ := od_cells HCL.out (i := 0) (by rw [HY.out.2.2.2.2.2.2.2.1]; omega)
  obtain ⟨adb, rfl, lb0, -⟩ := od_cells HP13.out.1.1.2 (i := 0) (by rw [HY.out.2.2.2.2.1.1]; omega)
  obtain ⟨adb', eab, -, -, -, -, -, -, lb1, -⟩ := od_cells HP13.out.1.1.2 (i := 1) (by rw [HY.out.2.2.2.2.1.1]; omega)
  cases eab
  rw [HY.out.2.2.2.2.2.2.2.2] at l0 l1 l2 l3 l4 l5 l6 l7
  rw [HY.out.2.2.2.2.1.2.1] at lb0
  rw [HY.out.2.2.2.2.1.2.2] at lb1
  obtain ⟨ot0, ot1, ot2, ot3, ot4, ot5, ot6, ot7⟩ := od_blk (o := oth) HP13.out.1.2
  simp only [Nat.zero_mul, Nat.one_mul, addr_zero] at l0 l1 l2 l3 l4 l5 l6 l7 lb0 lb1
  have lb1 : w13.cell? ⟨adb.block, adb.off + 8 + 6, none⟩ = some (.int .i64 500) := by simpa [Addr.add] using lb1
  have b1 : ((L3.length : Int) == 3) = true := by rw [HY.out.2.2.2.2.2.2.2.1]; rfl
  have b2 : ((La.length : Int) == 0) = true := by rw [HY.out.2.2.2.1]; rfl
  have b3 : ((Lb.length : Int) == 2) = true := by rw [HY.out.2.2.2.2.1.1]; rfl
  have b4 : ((Lc.length : Int) == 1) = true := by rw [HY.out.2.2.2.2.2.1]; rfl
  have b5 : (0 : Int) < (Lb.length : Int) := by rw [HY.out.2.2.2.2.1.1]; decide
  have b6 : (1 : Int) < (Lb.length : Int) := by rw [HY.out.2.2.2.2.1.1]; decide
  have b8 : 0 < Lb.length := by rw [HY.out.2.2.2.2.1.1]; decide
  have b9 : 1 < Lb.length := by rw [HY.out.2.2.2.2.1.1]; decide
  have b10 : 0 < L3.length := by rw [HY.out.2.2.2.2.2.2.2.1]; decide
  have b7 : (0 : Int) < (L3.length : Int) := by rw [HY.out.2.2.2.2.2.2.2.1]; decide
  simp only [hOd, oth] at l0 l1 l2 l3 l4 l5 l6 l7 ot0 ot1 ot2 ot3 ot4 ot5 ot6 ot7
  go_wp2_with fail
  refine start_ (n := 62) (S := fun W => Below w13.heap.size w13 W) (ds := []) #[false, false, false, false, false, false, false, false, false, false, false, false, false, false, false, false, false, false, false, false, false, false, false, false, false, false, false, false, false, false, false, false, false, false, false, false, false, false, false, false, false, false, false, false, false, false, false, false, false, false, false, false, false, false, false, false, false, false, false, false, false, false] (by kernel_rfl) rfl rfl (below_drew1 (Below.refl _ _)) (fun hHeld => ?_)
  refine pure_ (i := 0) (N := (some 47)) (v := ?_) (a' := ?_) #[true, false, false, false, false, false, false, false, false, false, false, false, false, false, false, false, false, false, false, false, false, false, false, false, false, false, false, false, false, false, false, false, false, false, false, false, false, false, false, false, false, false, false, false, false, false, false, false, false, false, false, false, false, false, false, false, false, false, false, false, false, false] rfl rfl (by kernel_rfl) (fun _ _ _ h => h) (Or.inl ⟨by rfl, ?_⟩) ?_ ?_
  rotate_left
  · intro w'
    go_simp
    with_reducible rfl
  rotate_left
  · simp only [Act.put, List.setIfInBounds_toArray, List.set_cons_zero, List.set_cons_succ, i64_w, i32_w]
    rfl
  refine pure_ (i := 1) (N := (some 48)) (v := ?_) (a' := ?_) #[true, true, false, false, false, false, false, false, false, false, false, false, false, false, false, false, false, false, false, false, false, false, false, false, false, false, false, false, false, false, false, false, false, false, false, false, false, false, false, false, false, false, false, false, false, false, false, false, false, false, false, false, false, false, false, false, false, false, false, false, false, false] rfl rfl (by kernel_rfl) (fun _ _ _ h => h) (Or.inl ⟨by rfl, ?_⟩) ?_ ?_
  rotate_left
  · intro w'
    go_simp
    with_reducible rfl
  rotate_left
  · simp only [Act.put, List.setIfInBounds_toArray, List.set_cons_zero, List.set_cons_succ, i64_w, i32_w]
    rfl
  refine pure_ (i := 2) (N := (some 49)) (v := ?_) (a' := ?_) #[true, true, true, false, false, false, false, false, false, false, false, false, false, false, false, false, false, false, false, false, false, false, false, false, false, false, false, false, false, false, false, false, false, false, false, false, false, false, false, false, false, false, false, false, false, false, false, false, false, false, false, false, false, false, false, false, false, false, false, false, false, false] rfl rfl (by kernel_rfl) (fun _ _ _ h => h) (Or.inl ⟨by rfl, ?_⟩) ?_ ?_
  rotate_left
  · intro w'
    go_simp
    with_reducible rfl
  rotate_left
  · simp only [Act.put, List.setIfInBounds_toArray, List.set_cons_zero, List.set_cons_succ, i64_w, i32_w]
    rfl
  refine pure_ (i := 3) (N := (some 50)) (v := ?_) (a' := ?_) #[true, true, true, true, false, false, false, false, false, false, false, false, false, false, false, false, false, false, false, false, false, false, false, false, false, false, false, false, false, false, false, false, false, false, false, false, false, false, false, false, false, false, false, false, false, false, false, false, false, false, false, false, false, false, false, false, false, false, false, false, false, false] rfl rfl (by kernel_rfl) (fun _ _ _ h => h) (Or.inl ⟨by rfl, ?_⟩) ?_ ?_
  rotate_left
  · intro w'
    go_simp
    with_reducible rfl
  rotate_left
  · simp only [Act.put, List.setIfInBounds_toArray, List.set_cons_zero, List.set_cons_succ, i64_w, i32_w]
    rfl
  refine pure_ (i := 4) (N := (some 51)) (v := ?_) (a' := ?_) #[true, true, true, true, true, false, false, false, false, false, false, false, false, false, false, false, false, false, false, false, false, false, false, false, false, false, false, false, false, false, false, false, false, false, false, false, false, false, false, false, false, false, false, false, false, false, false, false, false, false, false, false, false, false, false, false, false, false, false, false, false, false] rfl rfl (by kernel_rfl) (fun _ _ _ h => h) (Or.inl ⟨by rfl, ?_⟩) ?_ ?_
  rotate_left
  · intro w'
    go_simp
    with_reducible rfl
  rotate_left
  · simp only [Act.put, List.setIfInBounds_toArray, List.set_cons_zero, List.set_cons_succ, i64_w, i32_w]
    rfl
  refine pure_ (i := 5) (N := (some 52)) (v := ?_) (a' := ?_) #[true, true, true, true, true, true, false, false, false, false, false, false, false, false, false, false, false, false, false, false, false, false, false, false, false, false, false, false, false, false, false, false, false, false, false, false, false, false, false, false, false, false, false, false, false, false, false, false, false, false, false, false, false, false, false, false, false, false, false, false, false, false] rfl rfl (by kernel_rfl) (fun _ _ _ h => h) (Or.inl ⟨by rfl, ?_⟩) ?_ ?_
  rotate_left
  · intro w'
    go_simp
    with_reducible rfl
  rotate_left
  · simp only [Act.put, List.setIfInBounds_toArray, List.set_cons_zero, List.set_cons_succ, i64_w, i32_w]
    rfl
  refine pure_ (i := 6) (N := (some 53)) (v := ?_) (a' := ?_) #[true, true, true, true, true, true, true, false, false, false, false, false, false, false, false, false, false, false, false, false, false, false, false, false, false, false, false, false, false, false, false, false, false, false, false, false, false, false, false, false, false, false, false, false, false, false, false, false, false, false, false, false, false, false, false, false, false, false, false, false, false, false] rfl rfl (by kernel_rfl) (fun _ _ _ h => h) (Or.inl ⟨by rfl, ?_⟩) ?_ ?_
  rotate_left
  · intro w'
    go_simp
    with_reducible rfl
  rotate_left
  · simp only [Act.put, List.setIfInBounds_toArray, List.set_cons_zero, List.set_cons_succ, i64_w, i32_w]
    rfl
  refine pure_ (i := 7) (N := (some 54)) (v := ?_) (a' := ?_) #[true, true, true, true, true, true, true, true, false, false, false, false, false, false, false, false, false, false, false, false, false, false, false, false, false, false, false, false, false, false, false, false, false, false, false, false, false, false, false, false, false, false, false, false, false, false, false, false, false, false, false, false, false, false, false, false, false, false, false, false, false, false] rfl rfl (by kernel_rfl) (fun _ _ _ h => h) (Or.inl ⟨by rfl, ?_⟩) ?_ ?_
  rotate_left
  · intro w'
    go_simp
    with_reducible rfl
  rotate_left
  · simp only [Act.put, List.setIfInBounds_toArray, List.set_cons_zero, List.set_cons_succ, i64_w, i32_w]
    rfl
  refine pure_ (i := 8) (N := (some 55)) (v := ?_) (a' := ?_) #[true, true, true, true, true, true, true, true, true, false, false, false, false, false, false, false, false, false, false, false, false, false, false, false, false, false, false, false, false, false, false, false, false, false, false, false, false, false, false, false, false, false, false, false, false, false, false, false, false, false, false, false, false, false, false, false, false, false, false, false, false, false] rfl rfl (by kernel_rfl) (fun _ _ _ h => h) (Or.inl ⟨by rfl, ?_⟩) ?_ ?_
  rotate_left
  · intro w'
    go_simp
    with_reducible rfl
  rotate_left
  · simp only [Act.put, List.setIfInBounds_toArray, List.set_cons_zero, List.set_cons_succ, i64_w, i32_w]
    rfl
  refine pure_ (i := 9) (N := (some 56)) (v := ?_) (a' := ?_) #[true, true, true, true, true, true, true, true, true, true, false, false, false, false, false, false, false, false, false, false, false, false, false, false, false, false, false, false, false, false, false, false, false, false, false, false, false, false, false, false, false, false, false, false, false, false, false, false, false, false, false, false, false, false, false, false, false, false, false, false, false, false] rfl rfl (by kernel_rfl) (fun _ _ _ h => h) (Or.inl ⟨by rfl, ?_⟩) ?_ ?_
  rotate_left
  · intro w'
    go_simp
    with_reducible rfl
  rotate_left
  · simp only [Act.put, List.setIfInBounds_toArray, List.set_cons_zero, List.set_cons_succ, i64_w, i32_w]
    rfl
  refine pure_ (i := 10) (N := (some 57)) (v := ?_) (a' := ?_) #[true, true, true, true, true, true, true, true, true, true, true, false, false, false, false, false, false, false, false, false, false, false, false, false, false, false, false, false, false, false, false, false, false, false, false, false, false, false, false, false, false, false, false, false, false, false, false, false, false, false, false, false, false, false, false, false, false, false, false, false, false, false] rfl rfl (by kernel_rfl) (fun _ _ _ h => h) (Or.inl ⟨by rfl, ?_⟩) ?_ ?_
  rotate_left
  · intro w'
    go_simp
    with_reducible rfl
  rotate_left
  · simp only [Act.put, List.setIfInBounds_toArray, List.set_cons_zero, List.set_cons_succ, i64_w, i32_w]
    rfl
  refine pure_ (i := 11) (N := (some 58)) (v := ?_) (a' := ?_) #[true, true, true, true, true, true, true, true, true, true, true, true, false, false, false, false, false, false, false, false, false, false, false, false, false, false, false, false, false, false, false, false, false, false, false, false, false, false, false, false, false, false, false, false, false, false, false, false, false, false, false, false, false, false, false, false, false, false, false, false, false, false] rfl rfl (by kernel_rfl) (fun _ _ _ h => h) (Or.inl ⟨by rfl, ?_⟩) ?_ ?_
  rotate_left
  · intro w'
    go_simp
    with_reducible rfl
  rotate_left
  · simp only [Act.put, List.setIfInBounds_toArray, List.set_cons_zero, List.set_cons_succ, i64_w, i32_w]
    rfl
  refine pure_ (i := 12) (N := (some 59)) (v := ?_) (a' := ?_) #[true, true, true, true, true, true, true, true, true, true, true, true, true, false, false, false, false, false, false, false, false, false, false, false, false, false, false, false, false, false, false, false, false, false, false, false, false, false, false, false, false, false, false, false, false, false, false, false, false, false, false, false, false, false, false, false, false, false, false, false, false, false] rfl rfl (by kernel_rfl) (fun _ _ _ h => h) (Or.inl ⟨by rfl, ?_⟩) ?_ ?_
  rotate_left
  · intro w'
    go_simp
    with_reducible rfl
  rotate_left
  · simp only [Act.put, List.setIfInBounds_toArray, List.set_cons_zero, List.set_cons_succ, i64_w, i32_w]
    rfl
  refine pure_ (i := 13) (N := (some 60)) (v := ?_) (a' := ?_) #[true, true, true, true, true, true, true, true, true, true, true, true, true, true, false, false, false, false, false, false, false, false, false, false, false, false, false, false, false, false, false, false, false, false, false, false, false, false, false, false, false, false, false, false, false, false, false, false, false, false, false, false, false, false, false, false, false, false, false, false, false, false] rfl rfl (by kernel_rfl) (fun _ _ _ h => h) (Or.inl ⟨by rfl, ?_⟩) ?_ ?_
  rotate_left
  · intro w'
    go_simp
    with_reducible rfl
  rotate_left
  · simp only [Act.put, List.setIfInBounds_toArray, List.set_cons_zero, List.set_cons_succ, i64_w, i32_w]
    rfl
  refine pure_ (i := 14) (N := (some 61)) (v := ?_) (a' := ?_) #[true, true, true, true, true, true, true, true, true, true, true, true, true, true, true, false, false, false, false, false, false, false, false, false, false, false, false, false, false, false, false, false, false, false, false, false, false, false, false, false, false, false, false, false, false, false, false, false, false, false, false, false, false, false, false, false, false, false, false, false, false, false] rfl rfl (by kernel_rfl) (fun _ _ _ h => h) (Or.inl ⟨by rfl, ?_⟩) ?_ ?_
  rotate_left
  · intro w'
    go_simp
    with_reducible rfl
  rotate_left
  · simp only [Act.put, List.setIfInBounds_toArray, List.set_cons_zero, List.set_cons_succ, i64_w, i32_w]
    rfl
  refine pure_ (i := 15) (N := (some 62)) (v := ?_) (a' := ?_) #[true, true, true, true, true, true, true, true, true, true, true, true, true, true, true, true, false, false, false, false, false, false, false, false, false, false, false, false, false, false, false, false, false, false, false, false, false, false, false, false, false, false, false, false, false, false, false, false, false, false, false, false, false, false, false, false, false, false, false, false, false, false] rfl rfl (by kernel_rfl) (fun _ _ _ h => h) (Or.inl ⟨by rfl, ?_⟩) ?_ ?_
  rotate_left
  · intro w'
    go_simp
    with_reducible rfl
  rotate_left
  · simp only [Act.put, List.setIfInBounds_toArray, List.set_cons_zero, List.set_cons_succ, i64_w, i32_w]
    rfl
  refine pure_ (i := 16) (N := (some 63)) (v := ?_) (a' := ?_) #[true, true, true, true, true, true, true, true, true, true, true, true, true, true, true, true, true, false, false, false, false, false, false, false, false, false, false, false, false, false, false, false, false, false, false, false, false, false, false, false, false, false, false, false, false, false, false, false, false, false, false, false, false, false, false, false, false, false, false, false, false, false] rfl rfl (by kernel_rfl) (fun _ _ _ h => h) (Or.inl ⟨by rfl, ?_⟩) ?_ ?_
  rotate_left
  · intro w'
    go_simp
    with_reducible rfl
  rotate_left
  · simp only [Act.put, List.setIfInBounds_toArray, List.set_cons_zero, List.set_cons_succ, i64_w, i32_w]
    rfl
  refine pure_ (i := 17) (N := (some 64)) (v := ?_) (a' := ?_) #[true, true, true, true, true, true, true, true, true, true, true, true, true, true, true, true, true, true, false, false, false, false, false, false, false, false, false, false, false, false, false, false, false, false, false, false, false, false, false, false, false, false, false, false, false, false, false, false, false, false, false, false, false, false, false, false, false, false, false, false, false, false] rfl rfl (by kernel_rfl) (fun _ _ _ h => h) (Or.inl ⟨by rfl, ?_⟩) ?_ ?_
  rotate_left
  · intro w'
    go_simp
    with_reducible rfl
  rotate_left
  · simp only [Act.put, List.setIfInBounds_toArray, List.set_cons_zero, List.set_cons_succ, i64_w, i32_w]
    rfl
  refine pure_ (i := 18) (N := (some 65)) (v := ?_) (a' := ?_) #[true, true, true, true, true, true, true, true, true, true, true, true, true, true, true, true, true, true, true, false, false, false, false, false, false, false, false, false, false, false, false, false, false, false, false, false, false, false, false, false, false, false, false, false, false, false, false, false, false, false, false, false, false, false, false, false, false, false, false, false, false, false] rfl rfl (by kernel_rfl) (fun _ _ _ h => h) (Or.inl ⟨by rfl, ?_⟩) ?_ ?_
  rotate_left
  · intro w'
    go_simp
    with_reducible rfl
  rotate_left
  · simp only [Act.put, List.setIfInBounds_toArray, List.set_cons_zero, List.set_cons_succ, i64_w, i32_w]
    rfl
  refine pure_ (i := 19) (N := (some 66)) (v := ?_) (a' := ?_) #[true, true, true, true, true, true, true, true, true, true, true, true, true, true, true, true, true, true, true, true, false, false, false, false, false, false, false, false, false, false, false, false, false, false, false, false, false, false, false, false, false, false, false, false, false, false, false, false, false, false, false, false, false, false, false, false, false, false, false, false, false, false] rfl rfl (by kernel_rfl) (fun _ _ _ h => h) (Or.inl ⟨by rfl, ?_⟩) ?_ ?_
  rotate_left
  · intro w'
    go_simp
    with_reducible rfl
  rotate_left
  · simp only [Act.put, List.setIfInBounds_toArray, List.set_cons_zero, List.set_cons_succ, i64_w, i32_w]
    rfl
  refine pure_ (i := 20) (N := (some 67)) (v := ?_) (a' := ?_) #[true, true, true, true, true, true, true, true, true, true, true, true, true, true, true, true, true, true, true, true, true, false, false, false, false, false, false, false, false, false, false, false, false, false, false, false, false, false, false, false, false, false, false, false, false, false, false, false, false, false, false, false, false, false, false, false, false, false, false, false, false, false] rfl rfl (by kernel_rfl) (fun _ _ _ h => h) (Or.inl ⟨by rfl, ?_⟩) ?_ ?_
  rotate_left
  · intro w'
    go_simp
    with_reducible rfl
  rotate_left
  · simp only [Act.put, List.setIfInBounds_toArray, List.set_cons_zero, List.set_cons_succ, i64_w, i32_w]
    rfl
  refine take_ (i := 21) (N := (some 68)) (v := ?_) (a' := ?_) #[true, true, true, true, true, true, true, true, true, true, true, true, true, true, true, true, true, true, true, true, true, true, false, false, false, false, false, false, false, false, false, false, false, false, false, false, false, false, false, false, false, false, false, false, false, false, false, false, false, false, false, false, false, false, false, false, false, false, false, false, false, false] rfl rfl (by kernel_rfl) (fun _ _ _ h => h) (Or.inl ⟨by rfl, ?_⟩) hHeld ?_ ?_
  rotate_left
  · rintro w' sb
    have c0 := pw_cell_below sb lb0
    have c1 := pw_cell_below sb lb1
    have d0 := pw_cell_below sb ot0
    have d1 := pw_cell_below sb ot1
    have d2 := pw_cell_below sb ot2
    have d3 := pw_cell_below sb ot3
    have d4 := pw_cell_below sb ot4
    have d5 := pw_cell_below sb ot5
    have d6 := pw_cell_below sb ot6
    have d7 := pw_cell_below sb ot7
    have e0 := pw_cell_below sb l0
    have e1 := pw_cell_below sb l1
    have e2 := pw_cell_below sb l2
    have e3 := pw_cell_below sb l3
    have e4 := pw_cell_below sb l4
    have e5 := pw_cell_below sb l5
    have e6 := pw_cell_below sb l6
    have e7 := pw_cell_below sb l7
    clear sb
    go_simp
    with_reducible rfl
  rotate_left
  · simp only [Act.put, List.setIfInBounds_toArray, List.set_cons_zero, List.set_cons_succ, i64_w, i32_w]
    rfl
  refine pure_ (i := 22) (N := (some 69)) (v := ?_) (a' := ?_) #[true, true, true, true, true, true, true, true, true, true, true, true, true, true, true, true, true, true, true, true, true, true, true, false, false, false, false, false, false, false, false, false, false, false, false, false, false, false, false, false, false, false, false, false, false, false, false, false, false, false, false, false, false, false, false, false, false, false, false, false, false, false] rfl rfl (by kernel_rfl) (fun _ _ _ h => h) (Or.inl ⟨by rfl, ?_⟩) ?_ ?_
  rotate_left
  · intro w'
    go_simp
    with_reducible rfl
  rotate_left
  · simp only [Act.put, List.setIfInBounds_toArray, List.set_cons_zero, List.set_cons_succ, i64_w, i32_w]
    rfl
  refine pure_ (i := 23) (N := (some 70)) (v := ?_) (a' := ?_) #[true, true, true, true, true, true, true, true, true, true, true, true, true, true, true, true, true, true, true, true, true, true, true, true, false, false, false, false, false, false, false, false, false, false, false, false, false, false, false, false, false, false, false, false, false, false, false, false, false, false, false, false, false, false, false, false, false, false, false, false, false, false] rfl rfl (by kernel_rfl) (fun _ _ _ h => h) (Or.inl ⟨by rfl, ?_⟩) ?_ ?_
  rotate_left
  · intro w'
    go_simp
    with_reducible rfl
  rotate_left
  · simp only [Act.put, List.setIfInBounds_toArray, List.set_cons_zero, List.set_cons_succ, i64_w, i32_w]
    rfl
  refine pure_ (i := 24) (N := (some 71)) (v := ?_) (a' := ?_) #[true, true, true, true, true, true, true, true, true, true, true, true, true, true, true, true, true, true, true, true, true, true, true, true, true, false, false, false, false, false, false, false, false, false, false, false, false, false, false, false, false, false, false, false, false, false, false, false, false, false, false, false, false, false, false, false, false, false, false, false, false, false] rfl rfl (by kernel_rfl) (fun _ _ _ h => h) (Or.inl ⟨by rfl, ?_⟩) ?_ ?_
  rotate_left
  · intro w'
    go_simp
    with_reducible rfl
  rotate_left
  · simp only [Act.put, List.setIfInBounds_toArray, List.set_cons_zero, List.set_cons_succ, i64_w, i32_w]
    rfl
  refine pure_ (i := 25) (N := (some 72)) (v := ?_) (a' := ?_) #[true, true, true, true, true, true, true, true, true, true, true, true, true, true, true, true, true, true, true, true, true, true, true, true, true, true, false, false, false, false, false, false, false, false, false, false, false, false, false, false, false, false, false, false, false, false, false, false, false, false, false, false, false, false, false, false, false, false, false, false, false, false] rfl rfl (by kernel_rfl) (fun _ _ _ h => h) (Or.inl ⟨by rfl, ?_⟩) ?_ ?_
  rotate_left
  · intro w'
    go_simp
    with_reducible rfl
  rotate_left
  · simp only [Act.put, List.setIfInBounds_toArray, List.set_cons_zero, List.set_cons_succ, i64_w, i32_w]
    rfl
  refine pure_ (i := 26) (N := (some 73)) (v := ?_) (a' := ?_) #[true, true, true, true, true, true, true, true, true, true, true, true, true, true, true, true, true, true, true, true, true, true, true, true, true, true, true, false, false, false, false, false, false, false, false, false, false, false, false, false, false, false, false, false, false, false, false, false, false, false, false, false, false, false, false, false, false, false, false, false, false, false] rfl rfl (by kernel_rfl) (fun _ _ _ h => h) (Or.inl ⟨by rfl, ?_⟩) ?_ ?_
  rotate_left
  · intro w'
    go_simp
    with_reducible rfl
  rotate_left
  · simp only [Act.put, List.setIfInBounds_toArray, List.set_cons_zero, List.set_cons_succ, i64_w, i32_w]
    rfl
  refine pure_ (i := 27) (N := (some 74)) (v := ?_) (a' := ?_) #[true, true, true, true, true, true, true, true, true, true, true, true, true, true, true, true, true, true, true, true, true, true, true, true, true, true, true, true, false, false, false, false, false, false, false, false, false, false, false, false, false, false, false, false, false, false, false, false, false, false, false, false, false, false, false, false, false, false, false, false, false, false] rfl rfl (by kernel_rfl) (fun _ _ _ h => h) (Or.inl ⟨by rfl, ?_⟩) ?_ ?_
  rotate_left
  · intro w'
    go_simp
    with_reducible rfl
  rotate_left
  · simp only [Act.put, List.setIfInBounds_toArray, List.set_cons_zero, List.set_cons_succ, i64_w, i32_w]
    rfl
  refine take_ (i := 28) (N := (some 75)) (v := ?_) (a' := ?_) #[true, true, true, true, true, true, true, true, true, true, true, true, true, true, true, true, true, true, true, true, true, true, true, true, true, true, true, true, true, false, false, false, false, false, false, false, false, false, false, false, false, false, false, false, false, false, false, false, false, false, false, false, false, false, false, false, false, false, false, false, false, false] rfl rfl (by kernel_rfl) (fun _ _ _ h => h) (Or.inl ⟨by rfl, ?_⟩) hHeld ?_ ?_
  rotate_left
  · rintro w' sb
    have c0 := pw_cell_below sb lb0
    have c1 := pw_cell_below sb lb1
    have d0 := pw_cell_below sb ot0
    have d1 := pw_cell_below sb ot1
    have d2 := pw_cell_below sb ot2
    have d3 := pw_cell_below sb ot3
    have d4 := pw_cell_below sb ot4
    have d5 := pw_cell_below sb ot5
    have d6 := pw_cell_below sb ot6
    have d7 := pw_cell_below sb ot7
    have e0 := pw_cell_below sb l0
    have e1 := pw_cell_below sb l1
    have e2 := pw_cell_below sb l2
    have e3 := pw_cell_below sb l3
    have e4 := pw_cell_below sb l4
    have e5 := pw_cell_below sb l5
    have e6 := pw_cell_below sb l6
    have e7 := pw_cell_below sb l7
    clear sb
    go_simp
    with_reducible rfl
  rotate_left
  · simp only [Act.put, List.setIfInBounds_toArray, List.set_cons_zero, List.set_cons_succ, i64_w, i32_w]
    rfl
  refine pure_ (i := 29) (N := (some 76)) (v := ?_) (a' := ?_) #[true, true, true, true, true, true, true, true, true, true, true, true, true, true, true, true, true, true, true, true, true, true, true, true, true, true, true, true, true, true, false, false, false, false, false, false, false, false, false, false, false, false, false, false, false, false, false, false, false, false, false, false, false, false, false, false, false, false, false, false, false, false] rfl rfl (by kernel_rfl) (fun _ _ _ h => h) (Or.inl ⟨by rfl, ?_⟩) ?_ ?_
  rotate_left
  · intro w'
    go_simp
    with_reducible rfl
  rotate_left
  · simp only [Act.put, List.setIfInBounds_toArray, List.set_cons_zero, List.set_cons_succ, i64_w, i32_w]
    rfl
  refine pure_ (i := 30) (N := (some 77)) (v := ?_) (a' := ?_) #[true, true, true, true, true, true, true, true, true, true, true, true, true, true, true, true, true, true, true, true, true, true, true, true, true, true, true, true, true, true, true, false, false, false, false, false, false, false, false, false, false, false, false, false, false, false, false, false, false, false, false, false, false, false, false, false, false, false, false, false, false, false] rfl rfl (by kernel_rfl) (fun _ _ _ h => h) (Or.inl ⟨by rfl, ?_⟩) ?_ ?_
  rotate_left
  · intro w'
    go_simp
    with_reducible rfl
  rotate_left
  · simp only [Act.put, List.setIfInBounds_toArray, List.set_cons_zero, List.set_cons_succ, i64_w, i32_w]
    rfl
  refine pure_ (i := 31) (N := (some 78)) (v := ?_) (a' := ?_) #[true, true, true, true, true, true, true, true, true, true, true, true, true, true, true, true, true, true, true, true, true, true, true, true, true, true, true, true, true, true, true, true, false, false, false, false, false, false, false, false, false, false, false, false, false, false, false, false, false, false, false, false, false, false, false, false, false, false, false, false, false, false] rfl rfl (by kernel_rfl) (fun _ _ _ h => h) (Or.inl ⟨by rfl, ?_⟩) ?_ ?_
  rotate_left
  · intro w'
    go_simp
    with_reducible rfl
  rotate_left
  · simp only [Act.put, List.setIfInBounds_toArray, List.set_cons_zero, List.set_cons_succ, i64_w, i32_w]
    rfl
  refine pure_ (i := 32) (N := (some 79)) (v := ?_) (a' := ?_) #[true, true, true, true, true, true, true, true, true, true, true, true, true, true, true, true, true, true, true, true, true, true, true, true, true, true, true, true, true, true, true, true, true, false, false, false, false, false, false, false, false, false, false, false, false, false, false, false, false, false, false, false, false, false, false, false, false, false, false, false, false, false] rfl rfl (by kernel_rfl) (fun _ _ _ h => h) (Or.inl ⟨by rfl, ?_⟩) ?_ ?_
  rotate_left
  · intro w'
    go_simp
    with_reducible rfl
  rotate_left
  · simp only [Act.put, List.setIfInBounds_toArray, List.set_cons_zero, List.set_cons_succ, i64_w, i32_w]
    rfl
  refine pure_ (i := 33) (N := (some 80)) (v := ?_) (a' := ?_) #[true, true, true, true, true, true, true, true, true, true, true, true, true, true, true, true, true, true, true, true, true, true, true, true, true, true, true, true, true, true, true, true, true, true, false, false, false, false, false, false, false, false, false, false, false, false, false, false, false, false, false, false, false, false, false, false, false, false, false, false, false, false] rfl rfl (by kernel_rfl) (fun _ _ _ h => h) (Or.inl ⟨by rfl, ?_⟩) ?_ ?_
  rotate_left
  · intro w'
    go_simp
    with_reducible rfl
  rotate_left
  · simp only [Act.put, List.setIfInBounds_toArray, List.set_cons_zero, List.set_cons_succ, i64_w, i32_w]
    rfl
  refine pure_ (i := 34) (N := (some 81)) (v := ?_) (a' := ?_) #[true, true, true, true, true, true, true, true, true, true, true, true, true, true, true, true, true, true, true, true, true, true, true, true, true, true, true, true, true, true, true, true, true, true, true, false, false, false, false, false, false, false, false, false, false, false, false, false, false, false, false, false, false, false, false, false, false, false, false, false, false, false] rfl rfl (by kernel_rfl) (fun _ _ _ h => h) (Or.inl ⟨by rfl, ?_⟩) ?_ ?_
  rotate_left
  · intro w'
    go_simp
    with_reducible rfl
  rotate_left
  · simp only [Act.put, List.setIfInBounds_toArray, List.set_cons_zero, List.set_cons_succ, i64_w, i32_w]
    rfl
  refine pure_ (i := 35) (N := (some 82)) (v := ?_) (a' := ?_) #[true, true, true, true, true, true, true, true, true, true, true, true, true, true, true, true, true, true, true, true, true, true, true, true, true, true, true, true, true, true, true, true, true, true, true, true, false, false, false, false, false, false, false, false, false, false, false, false, false, false, false, false, false, false, false, false, false, false, false, false, false, false] rfl rfl (by kernel_rfl) (fun _ _ _ h => h) (Or.inl ⟨by rfl, ?_⟩) ?_ ?_
  rotate_left
  · intro w'
    go_simp
    with_reducible rfl
  rotate_left
  · simp only [Act.put, List.setIfInBounds_toArray, List.set_cons_zero, List.set_cons_succ, i64_w, i32_w]
    rfl
  refine pure_ (i := 36) (N := (some 83)) (v := ?_) (a' := ?_) #[true, true, true, true, true, true, true, true, true, true, true, true, true, true, true, true, true, true, true, true, true, true, true, true, true, true, true, true, true, true, true, true, true, true, true, true, true, false, false, false, false, false, false, false, false, false, false, false, false, false, false, false, false, false, false, false, false, false, false, false, false, false] rfl rfl (by kernel_rfl) (fun _ _ _ h => h) (Or.inl ⟨by rfl, ?_⟩) ?_ ?_
  rotate_left
  · intro w'
    go_simp
    with_reducible rfl
  rotate_left
  · simp only [Act.put, List.setIfInBounds_toArray, List.set_cons_zero, List.set_cons_succ, i64_w, i32_w]
    rfl
  refine pure_ (i := 37) (N := (some 84)) (v := ?_) (a' := ?_) #[true, true, true, true, true, true, true, true, true, true, true, true, true, true, true, true, true, true, true, true, true, true, true, true, true, true, true, true, true, true, true, true, true, true, true, true, true, true, false, false, false, false, false, false, false, false, false, false, false, false, false, false, false, false, false, false, false, false, false, false, false, false] rfl rfl (by kernel_rfl) (fun _ _ _ h => h) (Or.inl ⟨by rfl, ?_⟩) ?_ ?_
  rotate_left
  · intro w'
    go_simp
    with_reducible rfl
  rotate_left
  · simp only [Act.put, List.setIfInBounds_toArray, List.set_cons_zero, List.set_cons_succ, i64_w, i32_w]
    rfl
  refine pure_ (i := 38) (N := (some 85)) (v := ?_) (a' := ?_) #[true, true, true, true, true, true, true, true, true, true, true, true, true, true, true, true, true, true, true, true, true, true, true, true, true, true, true, true, true, true, true, true, true, true, true, true, true, true, true, false, false, false, false, false, false, false, false, false, false, false, false, false, false, false, false, false, false, false, false, false, false, false] rfl rfl (by kernel_rfl) (fun _ _ _ h => h) (Or.inl ⟨by rfl, ?_⟩) ?_ ?_
  rotate_left
  · intro w'
    go_simp
    with_reducible rfl
  rotate_left
  · simp only [Act.put, List.setIfInBounds_toArray, List.set_cons_zero, List.set_cons_succ, i64_w, i32_w]
    rfl
  refine pure_ (i := 39) (N := (some 86)) (v := ?_) (a' := ?_) #[true, true, true, true, true, true, true, true, true, true, true, true, true, true, true, true, true, true, true, true, true, true, true, true, true, true, true, true, true, true, true, true, true, true, true, true, true, true, true, true, false, false, false, false, false, false, false, false, false, false, false, false, false, false, false, false, false, false, false, false, false, false] rfl rfl (by kernel_rfl) (fun _ _ _ h => h) (Or.inl ⟨by rfl, ?_⟩) ?_ ?_
  rotate_left
  · intro w'
    go_simp
    with_reducible rfl
  rotate_left
  · simp only [Act.put, List.setIfInBounds_toArray, List.set_cons_zero, List.set_cons_succ, i64_w, i32_w]
    rfl
  refine pure_ (i := 40) (N := (some 87)) (v := ?_) (a' := ?_) #[true, true, true, true, true, true, true, true, true, true, true, true, true, true, true, true, true, true, true, true, true, true, true, true, true, true, true, true, true, true, true, true, true, true, true, true, true, true, true, true, true, false, false, false, false, false, false, false, false, false, false, false, false, false, false, false, false, false, false, false, false, false] rfl rfl (by kernel_rfl) (fun _ _ _ h => h) (Or.inl ⟨by rfl, ?_⟩) ?_ ?_
  rotate_left
  · intro w'
    go_simp
    with_reducible rfl
  rotate_left
  · simp only [Act.put, List.setIfInBounds_toArray, List.set_cons_zero, List.set_cons_succ, i64_w, i32_w]
    rfl
  refine pure_ (i := 41) (N := (some 88)) (v := ?_) (a' := ?_) #[true, true, true, true, true, true, true, true, true, true, true, true, true, true, true, true, true, true, true, true, true, true, true, true, true, true, true, true, true, true, true, true, true, true, true, true, true, true, true, true, true, true, false, false, false, false, false, false, false, false, false, false, false, false, false, false, false, false, false, false, false, false] rfl rfl (by kernel_rfl) (fun _ _ _ h => h) (Or.inl ⟨by rfl, ?_⟩) ?_ ?_
  rotate_left
  · intro w'
    go_simp
    with_reducible rfl
  rotate_left
  · simp only [Act.put, List.setIfInBounds_toArray, List.set_cons_zero, List.set_cons_succ, i64_w, i32_w]
    rfl
  refine pure_ (i := 42) (N := (some 89)) (v := ?_) (a' := ?_) #[true, true, true, true, true, true, true, true, true, true, true, true, true, true, true, true, true, true, true, true, true, true, true, true, true, true, true, true, true, true, true, true, true, true, true, true, true, true, true, true, true, true, true, false, false, false, false, false, false, false, false, false, false, false, false, false, false, false, false, false, false, false] rfl rfl (by kernel_rfl) (fun _ _ _ h => h) (Or.inl ⟨by rfl, ?_⟩) ?_ ?_
  rotate_left
  · intro w'
    go_simp
    with_reducible rfl
  rotate_left
  · simp only [Act.put, List.setIfInBounds_toArray, List.set_cons_zero, List.set_cons_succ, i64_w, i32_w]
    rfl
  refine pure_ (i := 43) (N := (some 90)) (v := ?_) (a' := ?_) #[true, true, true, true, true, true, true, true, true, true, true, true, true, true, true, true, true, true, true, true, true, true, true, true, true, true, true, true, true, true, true, true, true, true, true, true, true, true, true, true, true, true, true, true, false, false, false, false, false, false, false, false, false, false, false, false, false, false, false, false, false, false] rfl rfl (by kernel_rfl) (fun _ _ _ h => h) (Or.inl ⟨by rfl, ?_⟩) ?_ ?_
  rotate_left
  · intro w'
    go_simp
    with_reducible rfl
  rotate_left
  · simp only [Act.put, List.setIfInBounds_toArray, List.set_cons_zero, List.set_cons_succ, i64_w, i32_w]
    rfl
  refine pure_ (i := 44) (N := (some 91)) (v := ?_) (a' := ?_) #[true, true, true, true, true, true, true, true, true, true, true, true, true, true, true, true, true, true, true, true, true, true, true, true, true, true, true, true, true, true, true, true, true, true, true, true, true, true, true, true, true, true, true, true, true, false, false, false, false, false, false, false, false, false, false, false, false, false, false, false, false, false] rfl rfl (by kernel_rfl) (fun _ _ _ h => h) (Or.inl ⟨by rfl, ?_⟩) ?_ ?_
  rotate_left
  · intro w'
    go_simp
    with_reducible rfl
  rotate_left
  · simp only [Act.put, List.setIfInBounds_toArray, List.set_cons_zero, List.set_cons_succ, i64_w, i32_w]
    rfl
  refine pure_ (i := 45) (N := (some 92)) (v := ?_) (a' := ?_) #[true, true, true, true, true, true, true, true, true, true, true, true, true, true, true, true, true, true, true, true, true, true, true, true, true, true, true, true, true, true, true, true, true, true, true, true, true, true, true, true, true, true, true, true, true, true, false, false, false, false, false, false, false, false, false, false, false, false, false, false, false, false] rfl rfl (by kernel_rfl) (fun _ _ _ h => h) (Or.inl ⟨by rfl, ?_⟩) ?_ ?_
  rotate_left
  · intro w'
    go_simp
    with_reducible rfl
  rotate_left
  · simp only [Act.put, List.setIfInBounds_toArray, List.set_cons_zero, List.set_cons_succ, i64_w, i32_w]
    rfl
  refine pure_ (i := 46) (N := (some 93)) (v := ?_) (a' := ?_) #[true, true, true, true, true, true, true, true, true, true, true, true, true, true, true, true, true, true, true, true, true, true, true, true, true, true, true, true, true, true, true, true, true, true, true, true, true, true, true, true, true, true, true, true, true, true, true, false, false, false, false, false, false, false, false, false, false, false, false, false, false, false] rfl rfl (by kernel_rfl) (fun _ _ _ h => h) (Or.inl ⟨by rfl, ?_⟩) ?_ ?_
  rotate_left
  · intro w'
    go_simp
    with_reducible rfl
  rotate_left
  · simp only [Act.put, List.setIfInBounds_toArray, List.set_cons_zero, List.set_cons_succ, i64_w, i32_w]
    rfl
  refine pure_ (i := 47) (N := (some 94)) (v := ?_) (a' := ?_) #[true, true, true, true, true, true, true, true, true, true, true, true, true, true, true, true, true, true, true, true, true, true, true, true, true, true, true, true, true, true, true, true, true, true, true, true, true, true, true, true, true, true, true, true, true, true, true, true, false, false, false, false, false, false, false, false, false, false, false, false, false, false] rfl rfl (by kernel_rfl) (fun _ _ _ h => h) (Or.inl ⟨by rfl, ?_⟩) ?_ ?_
  rotate_left
  · intro w'
    go_simp
    with_reducible rfl
  rotate_left
  · simp only [Act.put, List.setIfInBounds_toArray, List.set_cons_zero, List.set_cons_succ, i64_w, i32_w]
    rfl
  refine pure_ (i := 48) (N := (some 95)) (v := ?_) (a' := ?_) #[true, true, true, true, true, true, true, true, true, true, true, true, true, true, true, true, true, true, true, true, true, true, true, true, true, true, true, true, true, true, true, true, true, true, true, true, true, true, true, true, true, true, true, true, true, true, true, true, true, false, false, false, false, false, false, false, false, false, false, false, false, false] rfl rfl (by kernel_rfl) (fun _ _ _ h => h) (Or.inl ⟨by rfl, ?_⟩) ?_ ?_
  rotate_left
  · intro w'
    go_simp
    with_reducible rfl
  rotate_left
  · simp only [Act.put, List.setIfInBounds_toArray, List.set_cons_zero, List.set_cons_succ, i64_w, i32_w]
    rfl
  refine pure_ (i := 49) (N := (some 96)) (v := ?_) (a' := ?_) #[true, true, true, true, true, true, true, true, true, true, true, true, true, true, true, true, true, true, true, true, true, true, true, true, true, true, true, true, true, true, true, true, true, true, true, true, true, true, true, true, true, true, true, true, true, true, true, true, true, true, false, false, false, false, false, false, false, false, false, false, false, false] rfl rfl (by kernel_rfl) (fun _ _ _ h => h) (Or.inl ⟨by rfl, ?_⟩) ?_ ?_
  rotate_left
  · intro w'
    go_simp
    with_reducible rfl
  rotate_left
  · simp only [Act.put, List.setIfInBounds_toArray, List.set_cons_zero, List.set_cons_succ, i64_w, i32_w]
    rfl
  refine one_ (i := 50) (N := (some 97)) #[true, true, true, true, true, true, true, true, true, true, true, true, true, true, true, true, true, true, true, true, true, true, true, true, true, true, true, true, true, true, true, true, true, true, true, true, true, true, true, true, true, true, true, true, true, true, true, true, true, true, true, false, false, false, false, false, false, false, false, false, false, false] rfl rfl (by kernel_rfl) (by decide) (fun K hK => ?_)
  refine goes_ Try.func14 (by kernel_rfl) rfl #[.slice (some adl) L3.length c] (by rfl) rfl rfl (by (try simp only [List.map_toArray, List.map_cons, List.map_nil]); first | done | rfl) ?_
  with_reducible refine (valid_n (some adl) L3.length c L3 true _ (Kd.C_below HCL.out hHeld) rfl HLC.out HY.out.2.2.2.2.2.2.1.1).mono ?_
  rintro e w' ⟨rfl, hb⟩
  refine ⟨_, rfl, ?_⟩
  refine hK.out _ _ (below_step hHeld hb) (fun hHeld => ?_)
  clear hK K
  clear hb
  refine norm_ (a' := ?_) ?_ ?_
  rotate_left
  · show Act.put _ (some 97) _ = _
    simp only [Act.put, List.setIfInBounds_toArray, List.set_cons_zero, List.set_cons_succ, i64_w, i32_w]
    rfl
  refine pure_ (i := 51) (N := (some 98)) (v := ?_) (a' := ?_) #[true, true, true, true, true, true, true, true, true, true, true, true, true, true, true, true, true, true, true, true, true, true, true, true, true, true, true, true, true, true, true, true, true, true, true, true, true, true, true, true, true, true, true, true, true, true, true, true, true, true, true, true, false, false, false, false, false, false, false, false, false, false] rfl rfl (by kernel_rfl) (fun _ _ _ h => h) (Or.inl ⟨by rfl, ?_⟩) ?_ ?_
  rotate_left
  · intro w'
    go_simp
    with_reducible rfl
  rotate_left
  · simp only [Act.put, List.setIfInBounds_toArray, List.set_cons_zero, List.set_cons_succ, i64_w, i32_w]
    rfl
  refine pure_ (i := 52) (N := (some 99)) (v := ?_) (a' := ?_) #[true, true, true, true, true, true, true, true, true, true, true, true, true, true, true, true, true, true, true, true, true, true, true, true, true, true, true, true, true, true, true, true, true, true, true, true, true, true, true, true, true, true, true, true, true, true, true, true, true, true, true, true, true, false, false, false, false, false, false, false, false, false] rfl rfl (by kernel_rfl) (fun _ _ _ h => h) (Or.inl ⟨by rfl, ?_⟩) ?_ ?_
  rotate_left
  · intro w'
    go_simp
    with_reducible rfl
  rotate_left
  · simp only [Act.put, List.setIfInBounds_toArray, List.set_cons_zero, List.set_cons_succ, i64_w, i32_w]
    rfl
  refine take_ (i := 53) (N := (some 100)) (v := ?_) (a' := ?_) #[true, true, true, true, true, true, true, true, true, true, true, true, true, true, true, true, true, true, true, true, true, true, true, true, true, true, true, true, true, true, true, true, true, true, true, true, true, true, true, true, true, true, true, true, true, true, true, true, true, true, true, true, true, true, false, false, false, false, false, false, false, false] rfl rfl (by kernel_rfl) (fun _ _ _ h => h) (Or.inl ⟨by rfl, ?_⟩) hHeld ?_ ?_
  rotate_left
  · rintro w' sb
    have c0 := pw_cell_below sb lb0
    have c1 := pw_cell_below sb lb1
    have d0 := pw_cell_below sb ot0
    have d1 := pw_cell_below sb ot1
    have d2 := pw_cell_below sb ot2
    have d3 := pw_cell_below sb ot3
    have d4 := pw_cell_below sb ot4
    have d5 := pw_cell_below sb ot5
    have d6 := pw_cell_below sb ot6
    have d7 := pw_cell_below sb ot7
    have e0 := pw_cell_below sb l0
    have e1 := pw_cell_below sb l1
    have e2 := pw_cell_below sb l2
    have e3 := pw_cell_below sb l3
    have e4 := pw_cell_below sb l4
    have e5 := pw_cell_below sb l5
    have e6 := pw_cell_below sb l6
    have e7 := pw_cell_below sb l7
    clear sb
    go_simp
    with_reducible rfl
  rotate_left
  · simp only [Act.put, List.setIfInBounds_toArray, List.set_cons_zero, List.set_cons_succ, i64_w, i32_w]
    rfl
  refine pure_ (i := 54) (N := (some 101)) (v := ?_) (a' := ?_) #[true, true, true, true, true, true, true, true, true, true, true, true, true, true, true, true, true, true, true, true, true, true, true, true, true, true, true, true, true, true, true, true, true, true, true, true, true, true, true, true, true, true, true, true, true, true, true, true, true, true, true, true, true, true, true, false, false, false, false, false, false, false] rfl rfl (by kernel_rfl) (fun _ _ _ h => h) (Or.inl ⟨by rfl, ?_⟩) ?_ ?_
  rotate_left
  · intro w'
    go_simp
    with_reducible rfl
  rotate_left
  · simp only [Act.put, List.setIfInBounds_toArray, List.set_cons_zero, List.set_cons_succ, i64_w, i32_w]
    rfl
  refine pure_ (i := 55) (N := (some 102)) (v := ?_) (a' := ?_) #[true, true, true, true, true, true, true, true, true, true, true, true, true, true, true, true, true, true, true, true, true, true, true, true, true, true, true, true, true, true, true, true, true, true, true, true, true, true, true, true, true, true, true, true, true, true, true, true, true, true, true, true, true, true, true, true, false, false, false, false, false, false] rfl rfl (by kernel_rfl) (fun _ _ _ h => h) (Or.inl ⟨by rfl, ?_⟩) ?_ ?_
  rotate_left
  · intro w'
    go_simp
    with_reducible rfl
  rotate_left
  · simp only [Act.put, List.setIfInBounds_toArray, List.set_cons_zero, List.set_cons_succ, i64_w, i32_w]
    rfl
  refine take_ (i := 56) (N := (some 103)) (v := ?_) (a' := ?_) #[true, true, true, true, true, true, true, true, true, true, true, true, true, true, true, true, true, true, true, true, true, true, true, true, true, true, true, true, true, true, true, true, true, true, true, true, true, true, true, true, true, true, true, true, true, true, true, true, true, true, true, true, true, true, true, true, true, false, false, false, false, false] rfl rfl (by kernel_rfl) (fun _ _ _ h => h) (Or.inl ⟨by rfl, ?_⟩) hHeld ?_ ?_
  rotate_left
  · rintro w' sb
    have c0 := pw_cell_below sb lb0
    have c1 := pw_cell_below sb lb1
    have d0 := pw_cell_below sb ot0
    have d1 := pw_cell_below sb ot1
    have d2 := pw_cell_below sb ot2
    have d3 := pw_cell_below sb ot3
    have d4 := pw_cell_below sb ot4
    have d5 := pw_cell_below sb ot5
    have d6 := pw_cell_below sb ot6
    have d7 := pw_cell_below sb ot7
    have e0 := pw_cell_below sb l0
    have e1 := pw_cell_below sb l1
    have e2 := pw_cell_below sb l2
    have e3 := pw_cell_below sb l3
    have e4 := pw_cell_below sb l4
    have e5 := pw_cell_below sb l5
    have e6 := pw_cell_below sb l6
    have e7 := pw_cell_below sb l7
    clear sb
    go_simp
    with_reducible rfl
  rotate_left
  · simp only [Act.put, List.setIfInBounds_toArray, List.set_cons_zero, List.set_cons_succ, i64_w, i32_w]
    rfl
  refine one_ (i := 57) (N := (some 104)) #[true, true, true, true, true, true, true, true, true, true, true, true, true, true, true, true, true, true, true, true, true, true, true, true, true, true, true, true, true, true, true, true, true, true, true, true, true, true, true, true, true, true, true, true, true, true, true, true, true, true, true, true, true, true, true, true, true, true, false, false, false, false] rfl rfl (by kernel_rfl) (by decide) (fun K hK => ?_)
  refine Kd.R_lit_step k24 _ 24 ?hg (N := 104) ?hd (xs := [oth, hOd 7 2 10 500]) (inner := [.int .i64 7, .string (⟨#[97, 110, 110, 97]⟩ : ByteArray), .string (⟨#[115, 104, 111, 112]⟩ : ByteArray), .int .i64 2, .int .i64 30, .int .i64 0, .int .i64 0, .bool false, .int .i64 7, .string (⟨#[97, 110, 110, 97]⟩ : ByteArray), .string (⟨#[98, 97, 110, 107]⟩ : ByteArray), .int .i64 2, .int .i64 10, .int .i64 0, .int .i64 500, .bool false]) (ok := fun _ => True) (okp := fun _ => True) ?hr ?hp (fun _ hk => hk) trivial (Below.refl _ _) (Nat.le_refl _) (by simp) ?_
  case hd => rfl
  case hg => rfl
  case hr => first | (go_simp; done) | (go_simp; rfl)
  case hp => exact (Reps.c8 (show Kd.M k24 _ _ _ oth [.int .i64 7, .string (⟨#[97, 110, 110, 97]⟩ : ByteArray), .string (⟨#[115, 104, 111, 112]⟩ : ByteArray), .int .i64 2, .int .i64 30, .int .i64 0, .int .i64 0, .bool false] from (k24_mkM _ _ _ oth)) (Reps.c8 (show Kd.M k24 _ _ _ (hOd 7 2 10 500) [.int .i64 7, .string (⟨#[97, 110, 110, 97]⟩ : ByteArray), .string (⟨#[98, 97, 110, 107]⟩ : ByteArray), .int .i64 2, .int .i64 10, .int .i64 0, .int .i64 500, .bool false] from (k24_mkM _ _ _ (hOd 7 2 10 500))) (Reps.none _ _)))
  intro vx wx hRx hbx hgx hatx
  obtain ⟨Ax, cx, ex⟩ := Kd.R_slice hRx
  obtain rfl : vx = .slice Ax 2 cx := ex
  have HX := Lib.hid (Kd.R_reads' hRx).2
  have hHeld2 := below_step hHeld hbx
  clear hRx hbx hgx hatx hHeld
  refine hK.out _ _ hHeld2 (fun hHeld => ?_)
  clear hK K hHeld2
  refine norm_ (a' := ?_) ?_ ?_
  rotate_left
  · show Act.put _ (some 104) _ = _
    simp only [Act.put, List.setIfInBounds_toArray, List.set_cons_zero, List.set_cons_succ, i64_w, i32_w]
    rfl
  refine one_ (i := 58) (N := (some 105)) #[true, true, true, true, true, true, true, true, true, true, true, true, true, true, true, true, true, true, true, true, true, true, true, true, true, true, true, true, true, true, true, true, true, true, true, true, true, true, true, true, true, true, true, true, true, true, true, true, true, true, true, true, true, true, true, true, true, true, true, false, false, false] rfl rfl (by kernel_rfl) (by decide) (fun K hK => ?_)
  refine goes_ Try.func14 (by kernel_rfl) rfl #[.slice Ax 2 cx] (by rfl) rfl rfl (by (try simp only [List.map_toArray, List.map_cons, List.map_nil]); first | done | rfl) ?_
  with_reducible refine (valid_n Ax 2 cx [oth, hOd 7 2 10 500] false _ HX.out.2 rfl HX.out.1 HY.out.2.2.2.2.2.2.1.2).mono ?_
  rintro e w' ⟨rfl, hb⟩
  refine ⟨_, rfl, ?_⟩
  refine hK.out _ _ (below_step hHeld hb) (fun hHeld => ?_)
  clear hK K
  clear hb
  refine norm_ (a' := ?_) ?_ ?_
  rotate_left
  · show Act.put _ (some 105) _ = _
    simp only [Act.put, List.setIfInBounds_toArray, List.set_cons_zero, List.set_cons_succ, i64_w, i32_w]
    rfl
  refine pure_ (i := 59) (N := (some 106)) (v := ?_) (a' := ?_) #[true, true, true, true, true, true, true, true, true, true, true, true, true, true, true, true, true, true, true, true, true, true, true, true, true, true, true, true, true, true, true, true, true, true, true, true, true, true, true, true, true, true, true, true, true, true, true, true, true, true, true, true, true, true, true, true, true, true, true, true, false, false] rfl rfl (by kernel_rfl) (fun _ _ _ h => h) (Or.inl ⟨by rfl, ?_⟩) ?_ ?_
  rotate_left
  · intro w'
    go_simp
    with_reducible rfl
  rotate_left
  · simp only [Act.put, List.setIfInBounds_toArray, List.set_cons_zero, List.set_cons_succ, i64_w, i32_w]
    rfl
  refine pure_ (i := 60) (N := (some 107)) (v := ?_) (a' := ?_) #[true, true, true, true, true, true, true, true, true, true, true, true, true, true, true, true, true, true, true, true, true, true, true, true, true, true, true, true, true, true, true, true, true, true, true, true, true, true, true, true, true, true, true, true, true, true, true, true, true, true, true, true, true, true, true, true, true, true, true, true, true, false] rfl rfl (by kernel_rfl) (fun _ _ _ h => h) (Or.inl ⟨by rfl, ?_⟩) ?_ ?_
  rotate_left
  · intro w'
    go_simp
    with_reducible rfl
  rotate_left
  · simp only [Act.put, List.setIfInBounds_toArray, List.set_cons_zero, List.set_cons_succ, i64_w, i32_w]
    rfl
  refine pure_ (i := 61) (N := (some 0)) (v := ?_) (a' := ?_) #[true, true, true, true, true, true, true, true, true, true, true, true, true, true, true, true, true, true, true, true, true, true, true, true, true, true, true, true, true, true, true, true, true, true, true, true, true, true, true, true, true, true, true, true, true, true, true, true, true, true, true, true, true, true, true, true, true, true, true, true, true, true] rfl rfl (by kernel_rfl) (fun _ _ _ h => h) (Or.inl ⟨by rfl, ?_⟩) ?_ ?_
  rotate_left
  · intro w'
    go_simp
    with_reducible rfl
  rotate_left
  · simp only [Act.put, List.setIfInBounds_toArray, List.set_cons_zero, List.set_cons_succ, i64_w, i32_w]
    rfl
  refine done_ (by kernel_rfl) ?_
  go_wp2_with fail
  go_ret
  exact ⟨rfl, below_step HP13.out.1.1.1.1.1.1 hHeld⟩
theorem wageofficelaw31_head.calls (r : Bool) (w : World) (h : wageofficelaw31_head.f = some r) : Calls Try.prog 10 #[] w fun e w' => e = .returned (.bool r) ∧ Below w.heap.size w w' := by
  injection h with h
  subst h
  exact head_any w
end Go.Proofs.Ytgbcihbnaecejaa.Q

namespace Go.Proofs.Ytgbcihbnaecejaa.Q
open Go Go.RowKit Go.Maps Go.Proofs.YtgbcihbnaecejaaW.PrintWords Go.Proofs.YtgbcihbnaecejaaW.PrintLast Go.Proofs.YtgbcihbnaecejaaW.PrintMore
theorem head31_c (w : World) : Calls Try.prog 10 #[] w fun e w' => e = .returned (.bool true) ∧ Below w.heap.size w w' := wageofficelaw31_head.calls true w rfl
end Go.Proofs.Ytgbcihbnaecejaa.Q

namespace Go.Proofs.Ytgbcihbnaecejaa.Q
open Go Go.RowKit Go.Maps Go.Proofs.YtgbcihbnaecejaaW.PrintWords Go.Proofs.YtgbcihbnaecejaaW.PrintLast Go.Proofs.YtgbcihbnaecejaaW.PrintMore
set_option linter.unusedVariables false
theorem short_t (A0 : Option Addr) (c0 : Nat) (l0 : List Od) (b : Bool) (w : World) (hr0 : Kd.C k24 w A0 l0.length l0) (hc0 : l0.length ≤ c0) (hb : decide ((l0.length : Int) ≤ 403) = b) : Calls Try.prog 11 #[.slice A0 l0.length c0] w fun e w' => e = .returned (.bool b) ∧ Below w.heap.size w w' := by
  subst hb
  refine (wageofficelaw31_short.calls A0 c0 l0 _ w hr0 hc0 rfl).mono fun e w' h => ⟨h.1, ?_⟩
  first
  | exact h.2
  | (obtain ⟨n, rfl⟩ := h.2.out; exact pw_below_drewN (Below.refl _ _) n)
theorem openO_len' (l : List Od) (p : ByteArray) (m kn : Int) : (openO l p m kn).length ≤ 400 := by
  unfold openO
  cases hv : valid l with
  | false => simp
  | true =>
    rw [if_pos rfl, sortO_length]
    exact Nat.le_trans (List.length_filter_le _ _) (Nat.le_trans (cur_len p kn l) ((valid_iff l).1 hv).1)
end Go.Proofs.Ytgbcihbnaecejaa.Q

namespace Go.Proofs.Ytgbcihbnaecejaa.Q
open Go Go.RowKit Go.Maps Go.Proofs.YtgbcihbnaecejaaW.PrintWords Go.Proofs.YtgbcihbnaecejaaW.PrintLast Go.Proofs.YtgbcihbnaecejaaW.PrintMore
set_option linter.unusedVariables false
set_option linter.unusedSimpArgs false
def wageofficelaw31_OrdersServing.f (l0 : List Od) (a1 : ByteArray) (a2 : Int) (a3 : Int) : Option (Bool) := some true
def serving_T : Bool × List (List Nat × List Nat) := (true, [([], []), ([], []), ([1], [1]), ([0, 2], [0, 2]), ([3], [3]), ([], []), ([], []), ([5, 6], [5, 6]), ([7], [7]), ([], []), ([], []), ([9, 4, 0, 1, 2, 3, 4, 9, 10], [4, 9]), ([10, 8, 11, 0, 1, 2, 3, 4, 5, 6, 7, 8, 9, 10, 11], [8, 10])])
def serving_B : List Nat := [0, 0, 2, 7, 15, 0, 0, 96, 224, 0, 0, 1567, 4095]
theorem serving_tab : rtab .any (opsOf Try.f6 8) = serving_T := by kernel_rfl
theorem serving_bits : waitsOk serving_T.2 serving_B = true := by kernel_rfl
def setOd (W : World) (g : Nat) (o : Od) : World := ((((((((W.setCell ⟨g, 0, none⟩ (.int .i64 o.f0)).setCell ⟨g, 1, none⟩ (.string o.f1)).setCell ⟨g, 2, none⟩ (.string o.f2)).setCell ⟨g, 3, none⟩ (.int .i64 o.f3)).setCell ⟨g, 4, none⟩ (.int .i64 o.f4)).setCell ⟨g, 5, none⟩ (.int .i64 o.f5)).setCell ⟨g, 6, none⟩ (.int .i64 o.f6)).setCell ⟨g, 7, none⟩ (.bool o.f7))
theorem setOd_blk {W : World} {g : Nat} (h : W.heap[g]? = some (.cells #[.int .i64 0, .string (⟨#[]⟩ : ByteArray), .string (⟨#[]⟩ : ByteArray), .int .i64 0, .int .i64 0, .int .i64 0, .int .i64 0, .bool false] 24 (0, 0))) (o : Od) : (setOd W g o).heap[g]? = some (.cells #[.int .i64 o.f0, .string o.f1, .string o.f2, .int .i64 o.f3, .int .i64 o.f4, .int .i64 o.f5, .int .i64 o.f6, .bool o.f7] 24 (0, 0)) := by
  have := (blk_set (blk_set (blk_set (blk_set (blk_set (blk_set (blk_set (blk_set h 0 (.int .i64 o.f0)) 1 (.string o.f1)) 2 (.string o.f2)) 3 (.int .i64 o.f3)) 4 (.int .i64 o.f4)) 5 (.int .i64 o.f5)) 6 (.int .i64 o.f6)) 7 (.bool o.f7))
  simpa only [setOd, List.setIfInBounds_toArray, List.set_cons_zero, List.set_cons_succ] using this
theorem setOd_far {W : World} {g k : Nat} {cs : Array Value} (h : W.heap[k]? = some (.cells cs 24 (0, 0))) (hne : k ≠ g) (o : Od) : (setOd W g o).heap[k]? = some (.cells cs 24 (0, 0)) := (blk_far (blk_far (blk_far (blk_far (blk_far (blk_far (blk_far (blk_far h hne _) hne _) hne _) hne _) hne _) hne _) hne _) hne _)
theorem setOd_below {w W : World} {g : Nat} (h : Below w.heap.size w W) (hg : w.heap.size ≤ g) (o : Od) : Below w.heap.size w (setOd W g o) := (below_set (below_set (below_set (below_set (below_set (below_set (below_set (below_set h hg) hg) hg) hg) hg) hg) hg) hg)
def TwoB (w : World) (g1 g2 : Nat) (W : World) : Prop := Below w.heap.size w W ∧ W.heap[g1]? = some (.cells #[.int .i64 0, .string (⟨#[]⟩ : ByteArray), .string (⟨#[]⟩ : ByteArray), .int .i64 0, .int .i64 0, .int .i64 0, .int .i64 0, .bool false] 24 (0, 0)) ∧ W.heap[g2]? = some (.cells #[.int .i64 0, .string (⟨#[]⟩ : ByteArray), .string (⟨#[]⟩ : ByteArray), .int .i64 0, .int .i64 0, .int .i64 0, .int .i64 0, .bool false] 24 (0, 0)) ∧ g1 ≠ g2 ∧ w.heap.size ≤ g1 ∧ w.heap.size ≤ g2
theorem openO_sorted (l : List Od) (p : ByteArray) (m kn : Int) : (openO l p m kn).Pairwise lessO := by
  unfold openO
  split
  · exact sortO_sorted ((cur_distinct p kn l).filter _)
  · exact List.Pairwise.nil
theorem sorted_at {X : List Od} (h : X.Pairwise lessO) {j k : Nat} (hk : k < X.length) (hj : j < k) : lessO (odAt X j) (odAt X k) := by
  have := List.pairwise_iff_getElem.1 h j k (by omega) hk hj
  unfold odAt
  rw [List.getD_eq_getElem?_getD, List.getD_eq_getElem?_getD, List.getElem?_eq_getElem (by omega : j < X.length), List.getElem?_eq_getElem hk]
  exact this
set_option maxRecDepth 100000 in
set_option maxHeartbeats 8000000 in
theorem serving_any (A0 : Option Addr) (c0 : Nat) (l0 : List Od) (p : ByteArray) (month kn : Int) (w : World) (hr0 : Kd.C k24 w A0 l0.length l0) (hc0 : l0.length ≤ c0) :
    Calls Try.prog 6 #[.slice A0 l0.length c0, .string p, .int .i64 month, .int .i64 kn] w fun e w' => e = .returned (.bool true) ∧ Below w.heap.size w w' := by
  have HC := Lib.hid hr0
  have HL := Lib.hid hc0
  clear hr0 hc0
  by_cases hsh : (l0.length : Int) ≤ 403
  · have HSH := Lib.hid (decide_eq_true hsh)
    have hxl := openO_len' l0 p month kn
    have HS := Lib.hid (openO_sorted l0 p month kn)
    generalize hX : openO l0 p month kn = X at *
    have HX := Lib.hid hX
    clear hX
    go_enter Try.func6, Try.ntmps6
    go_wp2_with (first | (go_at_call 10; refine (head31_c _).mono ?_; rintro e w1 ⟨rfl, hb⟩; have HB := Lib.hid hb; clear hb) | (go_at_call 11; refine (short_t A0 c0 l0 _ _ (Kd.C_below HC.out HB.out) HL.out HSH.out).mono ?_; rintro e w2 ⟨rfl, hb⟩; have HB2 := Lib.hid (below_step HB.out hb); clear hb) | (go_at_call 17; refine (orders_Open.calls A0 c0 l0 p month kn X _ (Kd.C_below HC.out HB2.out) HL.out (show orders_Open.f l0 p month kn = some X from by unfold orders_Open.f; rw [HX.out])).mono ?_; rintro e w3 ⟨v1, rfl, hR, hb⟩; obtain ⟨A1, c1, e1⟩ := Kd.R_slice hR; subst e1; have HR := Lib.hid (And.intro (below_step HB2.out hb) (Kd.R_reads' hR).2.2); clear hb hR) | go_in)
    go_loopw [11] (fun i wr => ∃ k : Nat, 1 ≤ k ∧ k ≤ X.length + 1 ∧ i = .int .i64 k ∧ Below w3.heap.size w3 wr) (fun i _ => X.length + 1 - (intOf i).toNat)
    case atStart => exact ⟨1, Nat.le_refl _, by omega, rfl, Below.refl _ _⟩
    case round =>
      obtain ⟨k, hk1, hk, rfl, hI⟩ := hrel
      have HI := Lib.hid hI
      clear hI
      by_cases hlt : k < X.length
      · obtain ⟨j, hj⟩ : ∃ j, j = k - 1 := ⟨_, rfl⟩
        have hjl : j < X.length := by omega
        have u1 : IntKind.i64.wrap ((k : Int) - 1) = (j : Int) := by rw [IntWalk.i64_in _ (by omega)]; omega
        obtain ⟨ad, e0, x0, x1, x2, x3, x4, x5, x6, x7⟩ := od_cells (Kd.C_below HR.out.2 HI.out) hlt
        obtain ⟨ad', e1, y0, y1, y2, y3, y4, y5, y6, y7⟩ := od_cells (Kd.C_below HR.out.2 HI.out) hjl
        subst e0
        cases e1
        have hless := sorted_at HS.out hlt (by omega : j < k)
        generalize ha : odAt X j = a at *
        generalize hb : odAt X k = b at *
        clear ha hb
        have c1 : decide (b.f3 < a.f3) = false := decide_eq_false (by unfold lessO at hless; omega)
        have c2 : ¬ (a.f3 = b.f3 ∧ b.f0 ≤ a.f0) := by unfold lessO at hless; omega
        have HJ := Lib.hid hj
        clear hless hj
        go_wp2_with fail
        refine start_ (n := 13) (S := fun W => Below wr.heap.size wr W) (ds := []) #[false, false, false, false, false, false, false, false, false, false, false, false, false] (by kernel_rfl) rfl rfl (below_drew1 (Below.refl _ _)) (fun hHeld => ?_)
        refine with_tabW serving_tab serving_bits (fun HT_ HW_ => ?_)
        generalize wr.drew = w20 at hHeld ⊢
        refine pure_ (i := 0) (N := some 30) (v := ?_) (a' := ?_) #[true, false, false, false, false, false, false, false, false, false, false, false, false] rfl rfl (any_of HT_.out (by kernel_rfl)) (fun _ _ _ h => h) (Or.inl ⟨by rfl, ?_⟩) ?_ ?_
        rotate_left
        · intro w'
          go_simp
          with_reducible rfl
        rotate_left
        · simp only [Act.put, List.setIfInBounds_toArray, List.set_cons_zero, List.set_cons_succ, i64_w, i32_w]
          rfl
        refine pure_ (i := 1) (N := some 31) (v := ?_) (a' := ?_) #[true, true, false, false, false, false, false, false, false, false, false, false, false] rfl rfl (any_of HT_.out (by kernel_rfl)) (fun _ _ _ h => h) (Or.inl ⟨by rfl, ?_⟩) ?_ ?_
        rotate_left
        · intro w'
          go_simp
          with_reducible rfl
        rotate_left
        · simp only [Act.put, List.setIfInBounds_toArray, List.set_cons_zero, List.set_cons_succ, i64_w, i32_w]
          rfl
        refine pure_ (i := 2) (N := some 32) (v := ?_) (a' := ?_) #[true, true, true, false, false, false, false, false, false, false, false, false, false] rfl rfl (any_of HT_.out (by kernel_rfl)) (fun _ _ _ h => h) (Or.inl ⟨by rfl, ?_⟩) ?_ ?_
        rotate_left
        · intro w'
          go_simp
          with_reducible rfl
        rotate_left
        · simp only [Act.put, List.setIfInBounds_toArray, List.set_cons_zero, List.set_cons_succ, i64_w, i32_w]
          rfl
        refine pure_ (i := 3) (N := some 33) (v := ?_) (a' := ?_) #[true, true, true, true, false, false, false, false, false, false, false, false, false] rfl rfl (any_of HT_.out (by kernel_rfl)) (fun _ _ _ h => h) (Or.inl ⟨by rfl, ?_⟩) ?_ ?_
        rotate_left
        · intro w'
          go_simp
          with_reducible rfl
        rotate_left
        · simp only [Act.put, List.setIfInBounds_toArray, List.set_cons_zero, List.set_cons_succ, i64_w, i32_w]
          rfl
        refine pure_ (i := 5) (N := some 35) (v := ?_) (a' := ?_) #[true, true, true, true, false, true, false, false, false, false, false, false, false] rfl rfl (any_of HT_.out (by kernel_rfl)) (fun _ _ _ h => h) (Or.inl ⟨by rfl, ?_⟩) ?_ ?_
        rotate_left
        · intro w'
          go_simp
          with_reducible rfl
        rotate_left
        · simp only [Act.put, List.setIfInBounds_toArray, List.set_cons_zero, List.set_cons_succ, i64_w, i32_w]
          rfl
        refine pure_ (i := 6) (N := some 36) (v := ?_) (a' := ?_) #[true, true, true, true, false, true, true, false, false, false, false, false, false] rfl rfl (any_of HT_.out (by kernel_rfl)) (fun _ _ _ h => h) (Or.inl ⟨by rfl, ?_⟩) ?_ ?_
        rotate_left
        · intro w'
          go_simp
          with_reducible rfl
        rotate_left
        · simp only [Act.put, List.setIfInBounds_toArray, List.set_cons_zero, List.set_cons_succ, i64_w, i32_w]
          rfl
        refine pure_ (i := 7) (N := some 37) (v := ?_) (a' := ?_) #[true, true, true, true, false, true, true, true, false, false, false, false, false] rfl rfl (any_of HT_.out (by kernel_rfl)) (fun _ _ _ h => h) (Or.inl ⟨by rfl, ?_⟩) ?_ ?_
        rotate_left
        · intro w'
          go_simp
          with_reducible rfl
        rotate_left
        · simp only [Act.put, List.setIfInBounds_toArray, List.set_cons_zero, List.set_cons_succ, i64_w, i32_w]
          rfl
        refine take_ (i := 4) (N := some 34) (v := ?_) (a' := ?_) #[true, true, true, true, true, true, true, true, false, false, false, false, false] rfl rfl (take_ofW HT_.out HW_.out (by kernel_rfl)) (fun _ _ _ h => h) (Or.inl ⟨by rfl, ?_⟩) hHeld ?_ ?_
        rotate_left
        · intro w' sb
          have e0 := pw_cell_below sb y0
          have e1 := pw_cell_below sb y1
          have e2 := pw_cell_below sb y2
          have e3 := pw_cell_below sb y3
          have e4 := pw_cell_below sb y4
          have e5 := pw_cell_below sb y5
          have e6 := pw_cell_below sb y6
          have e7 := pw_cell_below sb y7
          clear sb
          go_simp
          with_reducible rfl
        rotate_left
        · simp only [Act.put, List.setIfInBounds_toArray, List.set_cons_zero, List.set_cons_succ, i64_w, i32_w]
          rfl
        refine take_ (i := 8) (N := some 38) (v := ?_) (a' := ?_) #[true, true, true, true, true, true, true, true, true, false, false, false, false] rfl rfl (take_ofW HT_.out HW_.out (by kernel_rfl)) (fun _ _ _ h => h) (Or.inl ⟨by rfl, ?_⟩) hHeld ?_ ?_
        rotate_left
        · intro w' sb
          have e0 := pw_cell_below sb x0
          have e1 := pw_cell_below sb x1
          have e2 := pw_cell_below sb x2
          have e3 := pw_cell_below sb x3
          have e4 := pw_cell_below sb x4
          have e5 := pw_cell_below sb x5
          have e6 := pw_cell_below sb x6
          have e7 := pw_cell_below sb x7
          clear sb
          go_simp
          with_reducible rfl
        rotate_left
        · simp only [Act.put, List.setIfInBounds_toArray, List.set_cons_zero, List.set_cons_succ, i64_w, i32_w]
          rfl
        refine join_ (σ := Nat × Nat) 2 #[true, true, true, true, true, true, true, true, true, true, true, false, false] (fun s_ => [(12, .pointer (some ⟨s_.1, 0, none⟩)), (13, .pointer (some ⟨s_.2, 0, none⟩))]) (fun s_ W => TwoB wr s_.1 s_.2 W) ?_ ?_
        rotate_left
        · intro hCont
          refine two_ (i := 9) (j := 10) (Ni := some 12) (Nj := some 13) #[true, true, true, true, true, true, true, true, true, true, false, false, false] #[true, true, true, true, true, true, true, true, true, false, true, false, false] rfl rfl rfl rfl (two_of HT_.out (by kernel_rfl)) (by decide) (by decide) (fun K hK => ?_) (fun K hK => ?_)
          · refine box_step ?hg (N := 12) ?hd (cs := #[.int .i64 0, .string (⟨#[]⟩ : ByteArray), .string (⟨#[]⟩ : ByteArray), .int .i64 0, .int .i64 0, .int .i64 0, .int .i64 0, .bool false]) (t := 24) ?hr ?_; (case hd => rfl); (case hg => rfl); (case hr => first | (go_simp; done) | (go_simp; rfl))
            intro g1 hg w21 hbox hb
            have h1 := Lib.hid (And.intro (below_step hHeld hb) (And.intro hbox (show wr.heap.size ≤ g1 from by rw [hg]; exact hHeld.size)))
            clear hb hbox hg
            refine hK.out _ _ h1.out.1 (fun hHeld => ?_)
            clear hK K
            refine norm_ (a' := ?_) ?_ ?_
            rotate_left
            · show Act.put _ (some 12) _ = _
              simp only [Act.put, List.setIfInBounds_toArray, List.set_cons_zero, List.set_cons_succ, i64_w, i32_w]
              rfl
            refine one_ (i := 10) (N := some 13) #[true, true, true, true, true, true, true, true, true, true, true, false, false] rfl rfl (one_of HT_.out (by kernel_rfl)) (by decide) (fun K hK => ?_)
            refine box_step ?hg (N := 13) ?hd (cs := #[.int .i64 0, .string (⟨#[]⟩ : ByteArray), .string (⟨#[]⟩ : ByteArray), .int .i64 0, .int .i64 0, .int .i64 0, .int .i64 0, .bool false]) (t := 24) ?hr ?_; (case hd => rfl); (case hg => rfl); (case hr => first | (go_simp; done) | (go_simp; rfl))
            intro g2 hg w22 hbox hb
            have h2 := Lib.hid (show TwoB wr g1 g2 w22 from ⟨below_step h1.out.1 hb, blk_below h1.out.2.1 hb, hbox, by rw [hg]; exact Nat.ne_of_lt (blk_lt h1.out.2.1), h1.out.2.2, by rw [hg]; exact h1.out.1.size⟩)
            clear hb hbox hg h1
            refine hK.out _ _ h2.out.1 (fun hHeld => ?_)
            clear hK K
            refine norm_ (a' := ?_) ?_ ?_
            rotate_left
            · show Act.put _ (some 13) _ = _
              simp only [Act.put, List.setIfInBounds_toArray, List.set_cons_zero, List.set_cons_succ, i64_w, i32_w]
              rfl
            exact norm_ (by simp only [putAll, Act.put, List.setIfInBounds_toArray, List.set_cons_zero, List.set_cons_succ]) (hCont (g1, g2) _ h2.out)
          · refine box_step ?hg (N := 13) ?hd (cs := #[.int .i64 0, .string (⟨#[]⟩ : ByteArray), .string (⟨#[]⟩ : ByteArray), .int .i64 0, .int .i64 0, .int .i64 0, .int .i64 0, .bool false]) (t := 24) ?hr ?_; (case hd => rfl); (case hg => rfl); (case hr => first | (go_simp; done) | (go_simp; rfl))
            intro g2 hg w21 hbox hb
            have h1 := Lib.hid (And.intro (below_step hHeld hb) (And.intro hbox (show wr.heap.size ≤ g2 from by rw [hg]; exact hHeld.size)))
            clear hb hbox hg
            refine hK.out _ _ h1.out.1 (fun hHeld => ?_)
            clear hK K
            refine norm_ (a' := ?_) ?_ ?_
            rotate_left
            · show Act.put _ (some 13) _ = _
              simp only [Act.put, List.setIfInBounds_toArray, List.set_cons_zero, List.set_cons_succ, i64_w, i32_w]
              rfl
            refine one_ (i := 9) (N := some 12) #[true, true, true, true, true, true, true, true, true, true, true, false, false] rfl rfl (one_of HT_.out (by kernel_rfl)) (by decide) (fun K hK => ?_)
            refine box_step ?hg (N := 12) ?hd (cs := #[.int .i64 0, .string (⟨#[]⟩ : ByteArray), .string (⟨#[]⟩ : ByteArray), .int .i64 0, .int .i64 0, .int .i64 0, .int .i64 0, .bool false]) (t := 24) ?hr ?_; (case hd => rfl); (case hg => rfl); (case hr => first | (go_simp; done) | (go_simp; rfl))
            intro g1 hg w22 hbox hb
            have h2 := Lib.hid (show TwoB wr g1 g2 w22 from ⟨below_step h1.out.1 hb, hbox, blk_below h1.out.2.1 hb, by rw [hg]; exact Nat.ne_of_gt (blk_lt h1.out.2.1), by rw [hg]; exact h1.out.1.size, h1.out.2.2⟩)
            clear hb hbox hg h1
            refine hK.out _ _ h2.out.1 (fun hHeld => ?_)
            clear hK K
            refine norm_ (a' := ?_) ?_ ?_
            rotate_left
            · show Act.put _ (some 12) _ = _
              simp only [Act.put, List.setIfInBounds_toArray, List.set_cons_zero, List.set_cons_succ, i64_w, i32_w]
              rfl
            exact norm_ (by simp only [putAll, Act.put, List.setIfInBounds_toArray, List.set_cons_zero, List.set_cons_succ]) (hCont (g1, g2) _ h2.out)
        rintro ⟨g1, g2⟩ wj hF
        have HF := Lib.hid (show TwoB wr g1 g2 wj from hF)
        have hHeld := HF.out.1
        clear hF
        refine norm_ (a' := ?_) ?_ ?_
        rotate_left
        · simp only [putAll, Act.put, List.setIfInBounds_toArray, List.set_cons_zero, List.set_cons_succ]
          rfl
        refine one_ (i := 11) (N := none) #[true, true, true, true, true, true, true, true, true, true, true, true, false] rfl rfl (one_of HT_.out (by kernel_rfl)) (by decide) (fun K hK => ?_)
        have s0 : wj.cell? ⟨g1, 0, none⟩ = some (.int .i64 0) := (blk_cell HF.out.2.1 0).trans rfl
        have z0 := blk_frozen HF.out.2.1 0
        have s1 : wj.cell? ⟨g1, 1, none⟩ = some (.string (⟨#[]⟩ : ByteArray)) := (blk_cell HF.out.2.1 1).trans rfl
        have z1 := blk_frozen HF.out.2.1 1
        have s2 : wj.cell? ⟨g1, 2, none⟩ = some (.string (⟨#[]⟩ : ByteArray)) := (blk_cell HF.out.2.1 2).trans rfl
        have z2 := blk_frozen HF.out.2.1 2
        have s3 : wj.cell? ⟨g1, 3, none⟩ = some (.int .i64 0) := (blk_cell HF.out.2.1 3).trans rfl
        have z3 := blk_frozen HF.out.2.1 3
        have s4 : wj.cell? ⟨g1, 4, none⟩ = some (.int .i64 0) := (blk_cell HF.out.2.1 4).trans rfl
        have z4 := blk_frozen HF.out.2.1 4
        have s5 : wj.cell? ⟨g1, 5, none⟩ = some (.int .i64 0) := (blk_cell HF.out.2.1 5).trans rfl
        have z5 := blk_frozen HF.out.2.1 5
        have s6 : wj.cell? ⟨g1, 6, none⟩ = some (.int .i64 0) := (blk_cell HF.out.2.1 6).trans rfl
        have z6 := blk_frozen HF.out.2.1 6
        have s7 : wj.cell? ⟨g1, 7, none⟩ = some (.bool false) := (blk_cell HF.out.2.1 7).trans rfl
        have z7 := blk_frozen HF.out.2.1 7
        refine skip_ (w1 := setOd wj g1 a) (by rfl) rfl ?_ ?_
        · unfold setOd
          go_simp
        clear s0 z0 s1 z1 s2 z2 s3 z3 s4 z4 s5 z5 s6 z6 s7 z7
        have HG := Lib.hid (show Below wr.heap.size wr (setOd wj g1 a) ∧ (setOd wj g1 a).heap[g1]? = some (.cells #[.int .i64 a.f0, .string a.f1, .string a.f2, .int .i64 a.f3, .int .i64 a.f4, .int .i64 a.f5, .int .i64 a.f6, .bool a.f7] 24 (0, 0)) ∧ (setOd wj g1 a).heap[g2]? = some (.cells #[.int .i64 0, .string (⟨#[]⟩ : ByteArray), .string (⟨#[]⟩ : ByteArray), .int .i64 0, .int .i64 0, .int .i64 0, .int .i64 0, .bool false] 24 (0, 0)) from ⟨setOd_below HF.out.1 HF.out.2.2.2.2.1 a, setOd_blk HF.out.2.1 a, setOd_far HF.out.2.2.1 (Ne.symm HF.out.2.2.2.1) a⟩)
        generalize setOd wj g1 a = wk at HG ⊢
        refine hK.out _ _ HG.out.1 (fun hHeld => ?_)
        clear hK K
        refine one_ (i := 12) (N := none) #[true, true, true, true, true, true, true, true, true, true, true, true, true] rfl rfl (one_of HT_.out (by kernel_rfl)) (by decide) (fun K hK => ?_)
        have s0 : wk.cell? ⟨g2, 0, none⟩ = some (.int .i64 0) := (blk_cell HG.out.2.2 0).trans rfl
        have z0 := blk_frozen HG.out.2.2 0
        have s1 : wk.cell? ⟨g2, 1, none⟩ = some (.string (⟨#[]⟩ : ByteArray)) := (blk_cell HG.out.2.2 1).trans rfl
        have z1 := blk_frozen HG.out.2.2 1
        have s2 : wk.cell? ⟨g2, 2, none⟩ = some (.string (⟨#[]⟩ : ByteArray)) := (blk_cell HG.out.2.2 2).trans rfl
        have z2 := blk_frozen HG.out.2.2 2
        have s3 : wk.cell? ⟨g2, 3, none⟩ = some (.int .i64 0) := (blk_cell HG.out.2.2 3).trans rfl
        have z3 := blk_frozen HG.out.2.2 3
        have s4 : wk.cell? ⟨g2, 4, none⟩ = some (.int .i64 0) := (blk_cell HG.out.2.2 4).trans rfl
        have z4 := blk_frozen HG.out.2.2 4
        have s5 : wk.cell? ⟨g2, 5, none⟩ = some (.int .i64 0) := (blk_cell HG.out.2.2 5).trans rfl
        have z5 := blk_frozen HG.out.2.2 5
        have s6 : wk.cell? ⟨g2, 6, none⟩ = some (.int .i64 0) := (blk_cell HG.out.2.2 6).trans rfl
        have z6 := blk_frozen HG.out.2.2 6
        have s7 : wk.cell? ⟨g2, 7, none⟩ = some (.bool false) := (blk_cell HG.out.2.2 7).trans rfl
        have z7 := blk_frozen HG.out.2.2 7
        refine skip_ (w1 := setOd wk g2 b) (by rfl) rfl ?_ ?_
        · unfold setOd
          go_simp
        clear s0 z0 s1 z1 s2 z2 s3 z3 s4 z4 s5 z5 s6 z6 s7 z7
        have HH := Lib.hid (show Below wr.heap.size wr (setOd wk g2 b) ∧ (setOd wk g2 b).heap[g1]? = some (.cells #[.int .i64 a.f0, .string a.f1, .string a.f2, .int .i64 a.f3, .int .i64 a.f4, .int .i64 a.f5, .int .i64 a.f6, .bool a.f7] 24 (0, 0)) ∧ (setOd wk g2 b).heap[g2]? = some (.cells #[.int .i64 b.f0, .string b.f1, .string b.f2, .int .i64 b.f3, .int .i64 b.f4, .int .i64 b.f5, .int .i64 b.f6, .bool b.f7] 24 (0, 0)) from ⟨setOd_below HG.out.1 HF.out.2.2.2.2.2 b, setOd_far HG.out.2.1 HF.out.2.2.2.1 b, setOd_blk HG.out.2.2 b⟩)
        generalize setOd wk g2 b = wm at HH ⊢
        refine hK.out _ _ HH.out.1 (fun hHeld => ?_)
        clear hK K
        refine done_ (done_of HT_.out (by kernel_rfl)) ?_
        clear hHeld
        obtain ⟨a0, a1, a2, a3, a4, a5, a6, a7⟩ := od_blk HH.out.2.1
        obtain ⟨b0, b1, b2, b3, b4, b5, b6, b7⟩ := od_blk HH.out.2.2
        have HN := Lib.hid (Below.trans HI.out (HH.out.1.mono HI.out.size))
        clear x0 x1 x2 x3 x4 x5 x6 x7 y0 y1 y2 y3 y4 y5 y6 y7 HT_ HW_ HF HG
        by_cases he : a.f3 = b.f3
        · have n1 : (a.f3 == b.f3) = true := by simpa using he
          have n2 : decide (b.f0 ≤ a.f0) = false := decide_eq_false (fun h => c2 ⟨he, h⟩)
          clear he c2
          go_wp2_with fail
          go_roundw
          case rel => exact ⟨k + 1, by omega, by omega, by go_num, HN.out⟩
          case measure => simp [intOf]; omega
        · have n1 : (a.f3 == b.f3) = false := beq_eq_false_iff_ne.2 he
          clear he c2
          go_wp2_with fail
          go_roundw
          case rel => exact ⟨k + 1, by omega, by omega, by go_num, HN.out⟩
          case measure => simp [intOf]; omega
      · go_wp2_with fail
        go_ret
        exact ⟨rfl, Below.trans HR.out.1 (HI.out.mono HR.out.1.size)⟩
  · have HSH := Lib.hid (decide_eq_false hsh)
    go_enter Try.func6, Try.ntmps6
    go_wp2_with (first | (go_at_call 10; refine (head31_c _).mono ?_; rintro e w1 ⟨rfl, hb⟩; have HB := Lib.hid hb; clear hb) | (go_at_call 11; refine (short_t A0 c0 l0 _ _ (Kd.C_below HC.out HB.out) HL.out HSH.out).mono ?_; rintro e w2 ⟨rfl, hb⟩; have HB2 := Lib.hid (below_step HB.out hb); clear hb) | go_in)
    go_ret
    exact ⟨rfl, HB2.out⟩
theorem wageofficelaw31_OrdersServing.calls (A0 : Option Addr) (c0 : Nat) (l0 : List Od) (a1 : ByteArray) (a2 : Int) (a3 : Int) (r : Bool) (w : World) (hr0 : Kd.C k24 w A0 l0.length l0) (hc0 : l0.length ≤ c0) (h : wageofficelaw31_OrdersServing.f l0 a1 a2 a3 = some r) :
    Calls Try.prog 6 #[.slice A0 l0.length c0, .string a1, .int .i64 a2, .int .i64 a3] w fun e w' => e = .returned (.bool r) ∧ Below w.heap.size w w' := by
  injection h with h
  subst h
  exact serving_any A0 c0 l0 a1 a2 a3 w hr0 hc0
end Go.Proofs.Ytgbcihbnaecejaa.Q

namespace Go.Proofs.Ytgbcihbnaecejaa.Q
open Go Go.RowKit Go.Proofs.YtgbcihbnaecejaaW.PrintWords Go.Proofs.YtgbcihbnaecejaaW.PrintLast Go.Proofs.YtgbcihbnaecejaaW.PrintMore
set_option linter.unusedVariables false
theorem OrdersServing_pure (l0 : List Od) (a1 : ByteArray) (a2 : Int) (a3 : Int) (ok0 : ∀ y ∈ l0, ok24 y) (hm0 : l0.length ≤ maxLen) (ok1 : a1.size ≤ maxLen) (ok2 : (Lit.int .i64 a2).wf = true) (ok3 : (Lit.int .i64 a3).wf = true) : Ev (fun _ => wageofficelaw31_OrdersServing.f l0 a1 a2 a3) true := ⟨0, fun _ _ => rfl⟩
end Go.Proofs.Ytgbcihbnaecejaa.Q

namespace Go.Proofs.Ytgbcihbnaecejaa.ordersServing
open Go.ChangeShapes Go.WideShapes Go.ChangeAt Go.RowKit
open Go.ChangeMaps (open_string shut_string)
open Go.Proofs.YtgbcihbnaecejaaW.PrintWords Go.Proofs.YtgbcihbnaecejaaW.PrintLast Go.Proofs.Ytgbcihbnaecejaa.Q
set_option linter.unusedVariables false
theorem own : ownKnob Try.prog.godebug = none := by kernel_rfl
theorem laidOut : laidOutB Try.prog = true := by kernel_rfl
set_option maxRecDepth 100000 in
theorem lifted (os : Os) (started : os.Started) (H : Type) (enc : TypeId × Value → H) :
    ReturnsInHanded {} Try.checked os 6 .any (Rows.ordersServingSpec.pre6 enc Try.prog Try.f6 Rows.ordersServingRow.domain false) (Rows.ordersServingSpec.post enc Try.prog Try.f6 false true false false) := by
  refine returnsInHanded_of_change_sized (C := Try.checked) own started (by kernel_rfl) Try.func6
    (ChangeSpec.witness6 (enc := enc) (C := Try.checked) false ⟨#[], #[.slice none 0 0, .string ByteArray.empty, .int .i64 0, .int .i64 0], []⟩ 8 (by kernel_rfl) (by kernel_rfl) (by kernel_rfl) (by kernel_rfl)) ?_
  intro W base args ds gs before hval0 hW hcnd hsz0 _
  have hval : ∀ (j : Nat) t v, Try.f6.params[j]? = some t → args[j]? = some v → Value.okWide Try.prog W .any base t v := hval0
  have hW' := hW
  obtain ⟨p, q, hA0, hV, rfl, hfz, hnd⟩ := hW
  have hA : DataW.TrodAll enc Try.prog W 0 (fun _ => true) true Try.f6.params.toList args.toList ds p := hA0
  rw [Try.params6] at hA hval
  obtain ⟨v0, vs0, d0, ds0, p0, q0, hargs, rfl, rfl, h0, r0⟩ := trodAll_cons hA
  obtain ⟨v1, vs1, d1, ds1, p1, q1, rfl, rfl, rfl, h1, r1⟩ := trodAll_cons r0
  obtain ⟨v2, vs2, d2, ds2, p2, q2, rfl, rfl, rfl, h2, r2⟩ := trodAll_cons r1
  obtain ⟨v3, vs3, d3, ds3, p3, q3, rfl, rfl, rfl, h3, r3⟩ := trodAll_cons r2
  obtain ⟨rfl, rfl, rfl⟩ := trodAll_nil r3
  obtain rfl : args = #[v0, v1, v2, v3] := by cases args; simp_all
  obtain ⟨rfl, rfl⟩ := trodVars_none hV
  have k0 := h0
  have lt0 : ∀ x ∈ p0, x.block < W.heap.size := by obtain ⟨m, hm⟩ := k0; exact DataW.trod_lt m _ _ _ hm
  obtain ⟨A0, l0, c0, rfl, hc0, hr0, ok0, hm0⟩ := open_row Try.underlying22 (by kernel_rfl) opens24 (hval 0 22 v0 rfl rfl) h0
  obtain ⟨a1, rfl, rfl, rfl, ok1⟩ := open_string Try.underlying9 (hval 1 9 v1 rfl rfl) h1
  obtain ⟨a2, rfl, rfl, rfl, ok2⟩ := open_int Try.underlying3 (hval 2 3 v2 rfl rfl) h2
  obtain ⟨a3, rfl, rfl, rfl, ok3⟩ := open_int Try.underlying3 (hval 3 3 v3 rfl rfl) h3
  clear hA0 hval0 hsz0
  obtain ⟨k, hP⟩ := (OrdersServing_pure l0 a1 a2 a3 ok0 hm0 ok1 ok2 ok3).rounds
  refine (wageofficelaw31_OrdersServing.calls A0 c0 l0 a1 a2 a3 true W hr0 hc0 hP).mono fun e W' ⟨he, bel0⟩ => ?_
  have bel : Below W.heap.size W W' := bel0
  subst he
  exact ⟨_, rfl, _, _, _, [], _, [], hW', trodAll_mk1 (shut_bool Try.underlying4 _), (trodAll_cons_mk (Below.trod laidOut (by kernel_rfl) (of_decide_eq_true (by kernel_rfl)) k0 bel lt0) (trodAll_cons_mk (shut_string Try.underlying9 ok1) (trodAll_cons_mk (shut_int Try.underlying3 ok2) (trodAll_cons_mk (shut_int Try.underlying3 ok3) trodAll_mk0)))), rfl, bel.frame _, fun h => by cases h⟩
theorem over : Rows.ordersServingRow.holds Try.pinned (OpenSpec.ofChange Rows.ordersServingSpec) :=
  OpenClaim.holds_of_wide 6 Try.f6 rfl rfl rfl rfl rfl rfl rfl ⟨rfl, rfl, rfl, rfl, rfl⟩ rfl rfl rfl rfl rfl (by kernel_rfl) Try.func6 (by kernel_rfl)
    (of_decide_eq_true (by kernel_rfl)) (by unfold Func.isWrapper; first | (rw [if_pos (by decide +kernel)]; kernel_rfl) | (rw [if_neg (by decide +kernel)]; exact ⟨rfl, rfl⟩))
    (fun os started H enc _ => lifted os started H enc)
theorem proved : Rows.OrdersServingSaid := over
end Go.Proofs.Ytgbcihbnaecejaa.ordersServing
namespace Go.Proofs.Ytgbcihbnaecejaa
theorem ordersServing_holds : Rows.OrdersServingSaid := ordersServing.proved
end Go.Proofs.Ytgbcihbnaecejaa
