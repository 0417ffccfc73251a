/- For any list of spans its normal form is valid, holds the same days at and beside every bound, does not change when the spans stand in another order, when one is repeated or when improper spans are added, and is the list itself exactly if the list is valid; conditions: the arguments are values that Go can hold, nothing else.
   The walk of the law's code and its plain law (merged by wip/tools/trim.py out of own texts and of texts that the kit's printer wrote). -/
import Derived.Test.YtgplnfhpeeifjaaCNorm4
import Derived.ArgAppend
namespace Go.Proofs.Ytgplnfhpeeifjaa.Q
open Go.RowKit Go.Proofs.YtgplnfhpeeifjaaW.PrintWords Go.Proofs.YtgplnfhpeeifjaaW.PrintLast Go.Proofs.YtgplnfhpeeifjaaW.PrintMore
attribute [local go_sem] max2_int min2_int max_two min_two max_three min_three max_four min_four   -- for this text's walks alone
set_option linter.unusedVariables false
set_option linter.unusedSimpArgs false
def wageofficelaw04_far.f (a0_0 : Int) (a0_1 : Int) : Option (Bool) := if a0_0 > (-4611686018427387904) then (if a0_0 < 4611686018427387904 then (if a0_1 > (-4611686018427387904) then (some (decide (a0_1 < 4611686018427387904))) else (some false)) else (some false)) else (some false)
set_option maxHeartbeats 8000000 in
set_option maxRecDepth 100000 in
theorem wageofficelaw04_far.calls (a0_0 : Int) (a0_1 : Int) (r : Bool) (w : World) (h : wageofficelaw04_far.f a0_0 a0_1 = some r) :
    Calls Try.prog 27 #[.agg #[.int .i64 a0_0, .int .i64 a0_1]] w fun e w' => e = .returned (.bool r) ∧ Below w.heap.size w w' := by
  have hu33 := Try.underlying33
  have HB := Aside0.mk (Below.refl w.heap.size w)
  have H : (if a0_0 > (-4611686018427387904) then (if a0_0 < 4611686018427387904 then (if a0_1 > (-4611686018427387904) then (some (decide (a0_1 < 4611686018427387904))) else (some false)) else (some false)) else (some false)) = some r := h
  clear h
  by_cases c2 : a0_0 > (-4611686018427387904)
  · rw [if_pos c2] at H
    have c2b0 : decide ((-4611686018427387904) < a0_0) = true := decide_eq_true c2
    clear c2
    by_cases c3 : a0_0 < 4611686018427387904
    · rw [if_pos c3] at H
      have c3b0 : decide (a0_0 < 4611686018427387904) = true := decide_eq_true c3
      clear c3
      by_cases c4 : a0_1 > (-4611686018427387904)
      · rw [if_pos c4] at H
        have c4b0 : decide ((-4611686018427387904) < a0_1) = true := decide_eq_true c4
        clear c4
        obtain rfl := Option.some.inj H
        go_enter Try.func27, Try.ntmps27
        go_wp2_with (first | ((with_reducible refine gate_dst (N := 1) rfl ?_); refine box_event ?hg (N := 1) ?hd (cs := #[.int .i64 a0_0, .int .i64 a0_1]) (t := 33) ?hr ?_; (case hd => rfl); (case hg => rfl); (case hr => first | (go_simp; done) | (go_simp; rfl)); intro gb410 hg w5 hbox hb; have n0_ := Aside0.mk (below_step (by repeat (first | (with_reducible first | exact HB.out | apply below_alloc | apply pw_below_drewN | apply below_drew1) | exact HB.out)) hb); have n1_ := Aside0.mk (hbox); have n2_ := Aside0.mk ((by rw [hg]; exact (below_size (by repeat (first | (with_reducible first | exact HB.out | apply below_alloc | apply pw_below_drewN | apply below_drew1) | exact HB.out))) : w.heap.size ≤ gb410)); have n3_ := Aside0.mk ((by rw [hg]; exact (below_size (by repeat (first | (with_reducible first | exact HB.out | apply below_alloc | apply pw_below_drewN | apply below_drew1) | exact HB.out))) : w.heap.size ≤ gb410)); clear HB; have HB := n0_; have BK410 := n1_; have GW410 := n2_; have GE410 := n3_; clear n0_ n1_ n2_ n3_; clear hb hbox hg; have hcz6_0 : w5.cell? ⟨gb410, 0, none⟩ = some (.int .i64 a0_0) := (blk_cell BK410.out 0).trans rfl; have hcz6_1 : w5.cell? ⟨gb410, 1, none⟩ = some (.int .i64 a0_1) := (blk_cell BK410.out 1).trans rfl; have hfz6_0 := blk_frozen BK410.out 0; have hfz6_1 := blk_frozen BK410.out 1))
        go_ret
        exact ⟨by first | rfl | (simp [errW_none, errW_some] <;> rfl) | (simp [*, errW_none, errW_some] <;> rfl), by repeat (first | (with_reducible first | exact HB.out | apply below_alloc | apply pw_below_drewN | apply below_drew1 | refine below_set ?_ GE410.out) | exact HB.out)⟩
      · rw [if_neg c4] at H
        have c4b0 : decide ((-4611686018427387904) < a0_1) = false := decide_eq_false c4
        clear c4
        obtain rfl := Option.some.inj H
        go_enter Try.func27, Try.ntmps27
        go_wp2_with (first | ((with_reducible refine gate_dst (N := 1) rfl ?_); refine box_event ?hg (N := 1) ?hd (cs := #[.int .i64 a0_0, .int .i64 a0_1]) (t := 33) ?hr ?_; (case hd => rfl); (case hg => rfl); (case hr => first | (go_simp; done) | (go_simp; rfl)); intro gb410 hg w7 hbox hb; have n0_ := Aside0.mk (below_step (by repeat (first | (with_reducible first | exact HB.out | apply below_alloc | apply pw_below_drewN | apply below_drew1) | exact HB.out)) hb); have n1_ := Aside0.mk (hbox); have n2_ := Aside0.mk ((by rw [hg]; exact (below_size (by repeat (first | (with_reducible first | exact HB.out | apply below_alloc | apply pw_below_drewN | apply below_drew1) | exact HB.out))) : w.heap.size ≤ gb410)); have n3_ := Aside0.mk ((by rw [hg]; exact (below_size (by repeat (first | (with_reducible first | exact HB.out | apply below_alloc | apply pw_below_drewN | apply below_drew1) | exact HB.out))) : w.heap.size ≤ gb410)); clear HB; have HB := n0_; have BK410 := n1_; have GW410 := n2_; have GE410 := n3_; clear n0_ n1_ n2_ n3_; clear hb hbox hg; have hcz8_0 : w7.cell? ⟨gb410, 0, none⟩ = some (.int .i64 a0_0) := (blk_cell BK410.out 0).trans rfl; have hcz8_1 : w7.cell? ⟨gb410, 1, none⟩ = some (.int .i64 a0_1) := (blk_cell BK410.out 1).trans rfl; have hfz8_0 := blk_frozen BK410.out 0; have hfz8_1 := blk_frozen BK410.out 1))
        go_ret
        exact ⟨by first | rfl | (simp [errW_none, errW_some] <;> rfl) | (simp [*, errW_none, errW_some] <;> rfl), by repeat (first | (with_reducible first | exact HB.out | apply below_alloc | apply pw_below_drewN | apply below_drew1 | refine below_set ?_ GE410.out) | exact HB.out)⟩
    · rw [if_neg c3] at H
      have c3b0 : decide (a0_0 < 4611686018427387904) = false := decide_eq_false c3
      clear c3
      obtain rfl := Option.some.inj H
      go_enter Try.func27, Try.ntmps27
      go_wp2_with (first | ((with_reducible refine gate_dst (N := 1) rfl ?_); refine box_event ?hg (N := 1) ?hd (cs := #[.int .i64 a0_0, .int .i64 a0_1]) (t := 33) ?hr ?_; (case hd => rfl); (case hg => rfl); (case hr => first | (go_simp; done) | (go_simp; rfl)); intro gb410 hg w9 hbox hb; have n0_ := Aside0.mk (below_step (by repeat (first | (with_reducible first | exact HB.out | apply below_alloc | apply pw_below_drewN | apply below_drew1) | exact HB.out)) hb); have n1_ := Aside0.mk (hbox); have n2_ := Aside0.mk ((by rw [hg]; exact (below_size (by repeat (first | (with_reducible first | exact HB.out | apply below_alloc | apply pw_below_drewN | apply below_drew1) | exact HB.out))) : w.heap.size ≤ gb410)); have n3_ := Aside0.mk ((by rw [hg]; exact (below_size (by repeat (first | (with_reducible first | exact HB.out | apply below_alloc | apply pw_below_drewN | apply below_drew1) | exact HB.out))) : w.heap.size ≤ gb410)); clear HB; have HB := n0_; have BK410 := n1_; have GW410 := n2_; have GE410 := n3_; clear n0_ n1_ n2_ n3_; clear hb hbox hg; have hcz10_0 : w9.cell? ⟨gb410, 0, none⟩ = some (.int .i64 a0_0) := (blk_cell BK410.out 0).trans rfl; have hcz10_1 : w9.cell? ⟨gb410, 1, none⟩ = some (.int .i64 a0_1) := (blk_cell BK410.out 1).trans rfl; have hfz10_0 := blk_frozen BK410.out 0; have hfz10_1 := blk_frozen BK410.out 1))
      go_ret
      exact ⟨by first | rfl | (simp [errW_none, errW_some] <;> rfl) | (simp [*, errW_none, errW_some] <;> rfl), by repeat (first | (with_reducible first | exact HB.out | apply below_alloc | apply pw_below_drewN | apply below_drew1 | refine below_set ?_ GE410.out) | exact HB.out)⟩
  · rw [if_neg c2] at H
    have c2b0 : decide ((-4611686018427387904) < a0_0) = false := decide_eq_false c2
    clear c2
    obtain rfl := Option.some.inj H
    go_enter Try.func27, Try.ntmps27
    go_wp2_with (first | ((with_reducible refine gate_dst (N := 1) rfl ?_); refine box_event ?hg (N := 1) ?hd (cs := #[.int .i64 a0_0, .int .i64 a0_1]) (t := 33) ?hr ?_; (case hd => rfl); (case hg => rfl); (case hr => first | (go_simp; done) | (go_simp; rfl)); intro gb410 hg w11 hbox hb; have n0_ := Aside0.mk (below_step (by repeat (first | (with_reducible first | exact HB.out | apply below_alloc | apply pw_below_drewN | apply below_drew1) | exact HB.out)) hb); have n1_ := Aside0.mk (hbox); have n2_ := Aside0.mk ((by rw [hg]; exact (below_size (by repeat (first | (with_reducible first | exact HB.out | apply below_alloc | apply pw_below_drewN | apply below_drew1) | exact HB.out))) : w.heap.size ≤ gb410)); have n3_ := Aside0.mk ((by rw [hg]; exact (below_size (by repeat (first | (with_reducible first | exact HB.out | apply below_alloc | apply pw_below_drewN | apply below_drew1) | exact HB.out))) : w.heap.size ≤ gb410)); clear HB; have HB := n0_; have BK410 := n1_; have GW410 := n2_; have GE410 := n3_; clear n0_ n1_ n2_ n3_; clear hb hbox hg; have hcz12_0 : w11.cell? ⟨gb410, 0, none⟩ = some (.int .i64 a0_0) := (blk_cell BK410.out 0).trans rfl; have hcz12_1 : w11.cell? ⟨gb410, 1, none⟩ = some (.int .i64 a0_1) := (blk_cell BK410.out 1).trans rfl; have hfz12_0 := blk_frozen BK410.out 0; have hfz12_1 := blk_frozen BK410.out 1))
    go_ret
    exact ⟨by first | rfl | (simp [errW_none, errW_some] <;> rfl) | (simp [*, errW_none, errW_some] <;> rfl), by repeat (first | (with_reducible first | exact HB.out | apply below_alloc | apply pw_below_drewN | apply below_drew1 | refine below_set ?_ GE410.out) | exact HB.out)⟩
end Go.Proofs.Ytgplnfhpeeifjaa.Q

namespace Go.Proofs.YtgplnfhpeeifjaaW.PrintLast
open Go.RowKit Go.Proofs.YtgplnfhpeeifjaaW.PrintWords
theorem cut_cap {P : Program} (t e : TypeId) (kh km : IntKind) {i : TypeInfo} (ht : P.underlying t = some (.slice e)) (hi : P.info? e = some i) (A : Option Addr) (n c : Nat) (j : Int) (h0 : 0 ≤ j) (hm : j ≤ n) (hc : n ≤ c) :
    ∀ W : World, (Instr.slice t (.slice A n c) none (some (.int kh j)) (some (.int km j))).run P W = .ok (.slice A j.toNat j.toNat) W := by
  intro W
  have hel : P.elem t = e := by simp [Program.elem, ht]
  have hu : P.underlying t = some (.slice (P.elem t)) := by rw [hel]; exact ht
  have ha : (A.map fun x => x.add 0) = A := by cases A <;> simp [Addr.add]
  rw [run_slice_hm W t A n c hu kh km j j h0 (by omega) (by omega), hel]
  simp [sizeOf, typeInfo, hi, sliced, Result.andThen, ha]
section
variable {P : Program} {ops : Array Oper} {rest : List Oper} {o : Oper} {a : Act} {Q : Exit → Act → World → Prop} {α : Type}
theorem view_run (d : Kd α) {Rr0 Rr : α → List Value → Prop} {W : World} (base : Nat) (t ty e : TypeId) (z : Value) (bytes : Nat)
    (ht : P.underlying t = some (.slice e)) (hinfo : (P.info? e).map (fun i => (i.zero, i.size, i.bytes)) = some (some z, d.sz, bytes)) (hz : z.cells.size = d.sz) (hs0 : 0 < d.sz) (hb0 : 0 < bytes)
    (xs ys : List α) (A0 : Option Addr) (n : Nat) (A : Option Addr) (m c : Nat) (ok okp : Nat → Prop)
    (H0 : ReadsRow Rr0 d.sz W A0 n xs) (HR : ReadsRow Rr d.sz W A m ys) (hK0 : ∀ x cs, Rr0 x cs → d.M W base okp x cs) (hKM : ∀ x cs, Rr x cs → d.M W base okp x cs) (hokp : ∀ k, okp k → ok k) (hfresh : ∀ k, W.heap.size ≤ k → ok k)
    (hbase : base ≤ W.heap.size) (hm0 : 0 < m) (hl : (xs.length + m) * bytes ≤ 140737488355328) :
    ∃ v1 w1, (Builtin.append_ #[t, t] ty #[.slice A0 n n, .slice A m c]).run P W = .ok v1 w1 ∧ d.R e w1 base ok v1 (xs ++ ys) ∧ W.grownBy w1 (Value.slice none 0 0).ownBlock ∧ (v1.ownBlock = (Value.slice none 0 0).ownBlock ∨ ∃ b, v1.ownBlock = some b ∧ W.heap.size ≤ b) := by
  obtain ⟨i0, hi, hzz⟩ := Option.map_eq_some_iff.1 hinfo
  simp only [Prod.mk.injEq] at hzz
  obtain ⟨hz0, hz1, hz2⟩ := hzz
  have hm : ys.length = m := HR.1
  have hn : xs.length = n := H0.1
  have hlen : xs.length + m ≤ 140737488355328 := Nat.le_trans (Nat.le_mul_of_pos_right _ hb0) hl
  obtain ⟨ad, rfl, _⟩ := HR.2.2 hm0
  obtain ⟨news, hnr, hnc⟩ := ReadsRow.inner_ HR
  have hnM : Reps (d.M W base okp) d.sz ys news := hnr.imp_ (fun p c hp => hKM p c hp)
  have hone : ∀ u ∈ news, u.oneCell' = true := by
    intro u hu
    obtain ⟨q, hq, rfl⟩ := List.mem_iff_getElem.1 hu
    have hql : q / d.sz < ys.length := by
      rw [Nat.div_lt_iff_lt_mul hs0]
      rw [← hnM.1]
      exact hq
    have hc := hnM.2 (q / d.sz) _ (List.getElem?_eq_getElem hql)
    refine d.K_one (d.K_of_M hc) _ ?_
    rw [List.mem_iff_getElem?]
    refine ⟨q % d.sz, ?_⟩
    rw [List.getElem?_take, if_pos (Nat.mod_lt _ hs0), List.getElem?_drop, Nat.mul_comm, Nat.div_add_mod, List.getElem?_eq_getElem hq]
  -- what the new row holds, however it was made
  have fin : ∀ (v1 : Value) (w1 : World) (olds : List Value), Reps (d.M W base okp) d.sz xs olds → w1.ownsRow W.heap.size e d.sz v1 (xs.length + m) (olds ++ news) → W.grownBy w1 none →
      d.R e w1 base ok v1 (xs ++ ys) ∧ (v1.ownBlock = (Value.slice none 0 0).ownBlock ∨ ∃ b, v1.ownBlock = some b ∧ W.heap.size ≤ b) := by
    intro v1 w1 olds ho h2 hg
    have hb : ∃ b, v1.ownBlock = some b ∧ W.heap.size ≤ b := by
      rcases h2.2 with ⟨_, h0⟩ | ⟨g, cap, cur, rfl, hbg, _⟩
      · omega
      · exact ⟨g, rfl, hbg⟩
    obtain ⟨b, hb, hle⟩ := hb
    have step : ∀ {q : α} {c : List Value}, d.M W base okp q c → d.M w1 base (fun k => ok k ∧ some k ≠ v1.ownBlock) q c := by
      intro q c hq
      have h1 := d.M_move (w1 := w1) (fun k hk => hg.block k hk.2.2.1 (by simp)) (d.M_bound hq)
      refine d.M_mono (fun k hk => ⟨hokp k hk.1, ?_⟩) h1
      rw [hb]
      intro he
      injection he with he
      have := hk.2.2.1
      omega
    refine ⟨⟨fun k hk => ?_, olds ++ news, ?_, Kd.reps_append (ho.imp_ (fun _ _ hq => step hq)) (hnM.imp_ (fun _ _ hq => step hq))⟩, .inr ⟨b, hb, hle⟩⟩
    · rw [hb] at hk
      injection hk with hk
      exact hfresh k (by omega)
    · rw [List.length_append, hm]
      exact ⟨h2.1, h2.2.imp id (fun ⟨g, cap, cur, e1, e2, e3⟩ => ⟨g, cap, cur, e1, Nat.le_trans hbase e2, e3⟩)⟩
  rcases A0 with _ | b0
  · have h0 : n = 0 := by
      rcases Nat.eq_zero_or_pos n with h0 | h0
      · exact h0
      · obtain ⟨ad, h, _⟩ := H0.2.2 h0
        cases h
    subst h0
    obtain rfl : xs = [] := List.eq_nil_of_length_eq_zero hn
    obtain ⟨v1, w1, hrun, h2, hg, _, _⟩ := run_append_own_at (P := P) W W.heap.size t ty e i0 z d.sz bytes ht hi hz0 hz1 hz2 hz hs0 (.slice none 0 0) 0 [] (World.ownsRow_nil W _ e _) ad m c news (by rw [hnM.1, hm]) hnc hone (by simp only [maxLen]; simp at hlen; omega) (by simpa using hl) (Nat.le_refl _)
    obtain ⟨h3, h4⟩ := fin v1 w1 [] (Reps.none _ _) h2 hg
    exact ⟨v1, w1, hrun, h3, hg, h4⟩
  · obtain ⟨olds, hor, hoc⟩ := ReadsRow.inner_ H0
    have hoM : Reps (d.M W base okp) d.sz xs olds := hor.imp_ (fun p c hp => hK0 p c hp)
    subst hn
    obtain ⟨v1, w1, hrun, h2, hg⟩ := run_append_arg_grows (P := P) W t ty e i0 z d.sz bytes ht hi hz0 hz1 hz2 hz hs0 b0 xs.length xs.length olds hoM.1 hoc ad m c news (by rw [hnM.1, hm]) hnc (by omega) (by simp only [maxLen]; omega) hl
    obtain ⟨h3, h4⟩ := fin v1 w1 olds hoM h2 hg
    exact ⟨v1, w1, hrun, h3, hg, h4⟩
theorem Kd.R_append_view_step {Kc : Act → World → Prop} (d : Kd α) {Rr0 Rr : α → List Value → Prop} {w0 W : World} (base : Nat) (hw : Region.wanted o (yielded ops a.tmps) = true) (s x : Operand) (t e : TypeId) (z : Value) (bytes : Nat)
    (ho : o.op = .call { callee := .builtin .append, args := #[s, x], argTypes := #[t, t] })
    (ht : P.underlying t = some (.slice e)) (hinfo : (P.info? e).map (fun i => (i.zero, i.size, i.bytes)) = some (some z, d.sz, bytes)) (hz : z.cells.size = d.sz) (hs0 : 0 < d.sz) (hb0 : 0 < bytes)
    (xs ys : List α) (A0 : Option Addr) (n : Nat) (A : Option Addr) (m c : Nat) (ok okp : Nat → Prop) (hs : a.eval s = .slice A0 n n) (hx : a.eval x = .slice A m c)
    (H0 : ReadsRow Rr0 d.sz W A0 n xs) (HR : ReadsRow Rr d.sz W A m ys) (hK0 : ∀ x cs, Rr0 x cs → d.M W base okp x cs) (hKM : ∀ x cs, Rr x cs → d.M W base okp x cs) (hokp : ∀ k, okp k → ok k) (hfresh : ∀ k, W.heap.size ≤ k → ok k)
    (HB : Below base w0 W) (hbase : base ≤ W.heap.size) (hm0 : 0 < m) (hl : (xs.length + m) * bytes ≤ 140737488355328)
    (h : ∀ v1 w1, d.R e w1 base ok v1 (xs ++ ys) → Below base w0 w1 → W.grownBy w1 (Value.slice none 0 0).ownBlock → (v1.ownBlock = (Value.slice none 0 0).ownBlock ∨ ∃ b, v1.ownBlock = some b ∧ W.heap.size ≤ b) → Kc (a.put o.dst v1) w1) :
    if Region.wanted o (yielded ops a.tmps) = true then Oper.wp P o a W Kc Q else Kc (a.put o.dst undef) W := by
  obtain ⟨v1, w1, hr1, h1, hg, hat⟩ := view_run (P := P) d base t o.type e z bytes ht hinfo hz hs0 hb0 xs ys A0 n A m c ok okp H0 HR hK0 hKM hokp hfresh hbase hm0 hl
  rw [if_pos hw]
  unfold Oper.wp execOp
  simp only [ho, resolve, invoke, builtin, Sem.run_bind, Sem.run_pure, Result.andThen_ok, List.map_toArray, List.map_cons, List.map_nil, hs, hx, hr1]
  exact h v1 w1 h1 (HB.grown hg hbase (fun k hk => by simp [Value.ownBlock] at hk)) hg hat
end
end Go.Proofs.YtgplnfhpeeifjaaW.PrintLast

namespace Go.Proofs.Ytgplnfhpeeifjaa.Q
open Go.RowKit Go.Proofs.YtgplnfhpeeifjaaW.PrintWords Go.Proofs.YtgplnfhpeeifjaaW.PrintLast Go.Proofs.YtgplnfhpeeifjaaW.PrintMore
attribute [local go_sem] max2_int min2_int max_two min_two max_three min_three max_four min_four   -- for this text's walks alone
set_option linter.unusedVariables false
set_option linter.unusedSimpArgs false
def wageofficelaw04_shuffled.l0 : Nat → Int → List (S33) → List (S33) → Int → Int → Option ((List (S33)))
  | 0, _, _, _, _, _ => none
  | k + 1, x1, x5, x9, x10, x11 => if x11 < x10 then (if 0 ≤ x11 then (if x11 < (x9.length : Int) then (if (wrap64 ((x5.length : Int) + 1)) = 0 then (none) else (if 0 ≤ (Int.tmod (wrap64 ((wrap64 (x1)) + (wrap64 (3 * x11)))) (wrap64 ((x5.length : Int) + 1))) then (if (Int.tmod (wrap64 ((wrap64 (x1)) + (wrap64 (3 * x11)))) (wrap64 ((x5.length : Int) + 1))) ≤ (x5.length : Int) then ((some (x5.take ((Int.tmod (wrap64 ((wrap64 (x1)) + (wrap64 (3 * x11)))) (wrap64 ((x5.length : Int) + 1))) : Int).toNat : List (S33))).bind fun y312 => ((some (([(⟨(rd_T33 x9 x11).f0, (rd_T33 x9 x11).f1⟩ : S33)] : List (S33)) : List (S33))).bind fun y316 => ((some (x5.drop ((Int.tmod (wrap64 ((wrap64 (x1)) + (wrap64 (3 * x11)))) (wrap64 ((x5.length : Int) + 1))) : Int).toNat : List (S33))).bind fun y319 => (if y316.length + y319.length < 8796093022208 then ((some (y316 ++ y319 : List (S33))).bind fun y323 => (if 0 < (y323.length : Int) then (if y312.length + y323.length < 8796093022208 then (wageofficelaw04_shuffled.l0 k x1 (y312 ++ y323) x9 x10 (wrap64 (x11 + 1))) else (none)) else (none))) else (none))))) else (none)) else (none))) else (none)) else (none)) else (some x5)
def wageofficelaw04_shuffled.f (k : Nat) (l0 : List (S33)) (a1 : Int) : Option ((List (S33))) := wageofficelaw04_shuffled.l0 k a1 ([] : List (S33)) l0 (l0.length : Int) 0
theorem wageofficelaw04_shuffled.mono_l : ∀ k, (∀ y0 y1 y2 y3 y4, LeO (wageofficelaw04_shuffled.l0 k y0 y1 y2 y3 y4) (wageofficelaw04_shuffled.l0 (k + 1) y0 y1 y2 y3 y4))
  | 0 => fun _ _ _ _ _ r h => by simp [wageofficelaw04_shuffled.l0] at h
  | k + 1 => by
    have ih0 := wageofficelaw04_shuffled.mono_l k
    · intro y0 y1 y2 y3 y4
      unfold wageofficelaw04_shuffled.l0
      repeat' first
      | (with_reducible exact ih0 _ _ _ _ _)
      | (with_reducible exact LeO.refl _)
      | (with_reducible exact LeO.none _)
      | (with_reducible refine LeO.ite ?_ ?_)
      | (with_reducible refine LeO.bind ?_ (fun _ => ?_))
      | exact ih0 _ _ _ _ _
      | exact LeO.none _
      | refine LeO.ite ?_ ?_
      | refine LeO.bind ?_ (fun _ => ?_)
theorem wageofficelaw04_shuffled.mono : ∀ a0 a1 k, LeO (wageofficelaw04_shuffled.f k a0 a1) (wageofficelaw04_shuffled.f (k + 1) a0 a1) := by
  intro a0 a1 k
  have ih0 := wageofficelaw04_shuffled.mono_l k
  unfold wageofficelaw04_shuffled.f
  repeat' first
      | (with_reducible exact ih0 _ _ _ _ _)
      | (with_reducible exact LeO.refl _)
      | (with_reducible exact LeO.none _)
      | (with_reducible refine LeO.ite ?_ ?_)
      | (with_reducible refine LeO.bind ?_ (fun _ => ?_))
      | exact ih0 _ _ _ _ _
      | exact LeO.none _
      | refine LeO.ite ?_ ?_
      | refine LeO.bind ?_ (fun _ => ?_)
def wageofficelaw04_shuffled.T6 : Bool × List (List Nat × List Nat) := (true, [([], []), ([], []), ([], []), ([0, 1, 2], [0, 1, 2]), ([], []), ([4], [4]), ([], []), ([], []), ([6, 7], [6, 7]), ([5, 8], [5, 8]), ([3, 9, 9], [3, 9]), ([10, 10, 0, 1, 2, 3, 4, 5, 6, 7, 8, 9, 10], [0, 6, 10])])
def wageofficelaw04_shuffled.B6 : List Nat := [0, 0, 0, 7, 0, 16, 0, 0, 192, 496, 1023, 2047]
theorem wageofficelaw04_shuffled.tab6 : rtab .any (opsOf Try.f28 6) = wageofficelaw04_shuffled.T6 := by kernel_rfl
theorem wageofficelaw04_shuffled.bits6 : waitsOk wageofficelaw04_shuffled.T6.2 wageofficelaw04_shuffled.B6 = true := by kernel_rfl
set_option maxHeartbeats 8000000 in
set_option maxRecDepth 100000 in
theorem wageofficelaw04_shuffled.calls (k : Nat) (A0 : Option Addr) (c0 : Nat) (l0 : List (S33)) (a1 : Int) (r : List (S33)) (w : World) (hr0 : Kd.C k33 w A0 l0.length l0) (hc0 : l0.length ≤ c0) (h : wageofficelaw04_shuffled.f k l0 a1 = some r) :
    Calls Try.prog 28 #[.slice A0 l0.length c0, .int .u8 a1] w fun e w' => ∃ v0_ : Value, e = .returned (v0_) ∧ Kd.R k33 33 w' w.heap.size (fun _ => True) v0_ r ∧ Below w.heap.size w w' := by
  have hu33 := Try.underlying33
  have HR0 := Aside0.mk hr0
  have HC0 := Aside0.mk hc0
  clear hr0 hc0
  have HB := Aside0.mk (Below.refl w.heap.size w)
  have H : (wageofficelaw04_shuffled.l0 k a1 ([] : List (S33)) l0 (l0.length : Int) 0) = some r := h
  clear h
  have H' := Aside0.mk H
  clear H
  go_enter Try.func28, Try.ntmps28
  go_wp2
  go_loopg [5, 11] k (fun kq v5 v11 w' => ∃ (x5_1 : List (S33)) (x11_1 : Int), v11 = .int .i64 x11_1 ∧ Aside0 (wageofficelaw04_shuffled.l0 kq a1 x5_1 l0 (l0.length : Int) x11_1 = some r) ∧ Aside0 (kq ≤ k) ∧ Aside0 (Kd.R k33 33 w' w.heap.size (fun _ => True) v5 x5_1) ∧ Aside0 (Below w.heap.size w w'))
  case atStart => exact ⟨(([] : List (S33))), (0), (by first | rfl | (simp; done) | (simp [*]; done)), H', ⟨Nat.le_refl _⟩, ⟨by first | exact Kd.R_nil _ _ _ _ _ | exact Kd.N_nil _ _ _ _ _ | exact Kd.V_nil _ _ _ _ _ | exact Kd.Q_nil _ _ _ _ _ | exact Kd.S_nil _ _ _ _ _⟩, ⟨by repeat (first | (with_reducible first | exact HB.out | apply below_alloc | apply pw_below_drewN | apply below_drew1) | exact HB.out)⟩⟩
  case round =>
    clear H'
    try clear c2
    try clear p2
    obtain ⟨x5_1, x11_1, rfl, HA, HK1, HO_5, HB⟩ := hrel
    cases gk with
    | zero => exact absurd HA.out (by simp [wageofficelaw04_shuffled.l0])
    | succ k1 =>
      have H := HA.out
      clear HA
      simp only [wageofficelaw04_shuffled.l0] at H
      by_cases c3 : x11_1 < (l0.length : Int)
      · rw [if_pos c3] at H
        have c3b0 : decide (x11_1 < (l0.length : Int)) = true := decide_eq_true c3
        clear c3
        by_cases c4 : 0 ≤ x11_1
        · rw [if_pos c4] at H
          have c4b0 : decide (0 ≤ x11_1) = true := decide_eq_true c4
          clear c4
          by_cases c5 : x11_1 < (l0.length : Int)
          · rw [if_pos c5] at H
            have c5b0 : decide (x11_1 < (l0.length : Int)) = true := decide_eq_true c5
            clear c5
            by_cases c6 : (wrap64 ((x5_1.length : Int) + 1)) = 0
            · rw [if_pos c6] at H
              exact absurd H (by simp)
            · rw [if_neg c6] at H
              have c6b0 : ((wrap64 ((x5_1.length : Int) + 1)) == 0) = false := beq_eq_false_iff_ne.mpr c6
              have c6b1 : ((wrap64 ((x5_1.length : Int) + 1)) != 0) = true := bne_iff_ne.mpr c6
              obtain ⟨ji7, hji7⟩ : ∃ j_ : Int, (Int.tmod (wrap64 ((wrap64 (a1)) + (wrap64 (3 * x11_1)))) (wrap64 ((x5_1.length : Int) + 1))) = j_ := ⟨_, rfl⟩
              replace H : (if 0 ≤ (ji7) then (if (ji7) ≤ (x5_1.length : Int) then ((some (x5_1.take ((ji7) : Int).toNat : List (S33))).bind fun y312 => ((some (([(⟨(rd_T33 l0 x11_1).f0, (rd_T33 l0 x11_1).f1⟩ : S33)] : List (S33)) : List (S33))).bind fun y316 => ((some (x5_1.drop ((ji7) : Int).toNat : List (S33))).bind fun y319 => (if y316.length + y319.length < 8796093022208 then ((some (y316 ++ y319 : List (S33))).bind fun y323 => (if 0 < (y323.length : Int) then (if y312.length + y323.length < 8796093022208 then (wageofficelaw04_shuffled.l0 k1 a1 (y312 ++ y323) l0 (l0.length : Int) (wrap64 (x11_1 + 1))) else (none)) else (none))) else (none))))) else (none)) else (none)) = some r := by first | (rw [hji7] at H; exact H) | (simp only [hji7] at H ⊢; exact H)
              by_cases c8 : 0 ≤ (ji7)
              · rw [if_pos c8] at H
                have c8b0 := eq_true c8
                have c8b1 : decide (0 ≤ (ji7)) = true := decide_eq_true c8
                clear c8
                by_cases c9 : (ji7) ≤ (x5_1.length : Int)
                · rw [if_pos c9] at H
                  have c9b0 := eq_true c9
                  have c9b1 : decide ((ji7) ≤ (x5_1.length : Int)) = true := decide_eq_true c9
                  clear c9
                  obtain ⟨y312, hy312⟩ : ∃ y_ : List (S33), y_ = (x5_1.take ((ji7) : Int).toNat) := ⟨_, rfl⟩
                  replace H : ((some (([(⟨(rd_T33 l0 x11_1).f0, (rd_T33 l0 x11_1).f1⟩ : S33)] : List (S33)) : List (S33))).bind fun y316 => ((some (x5_1.drop ((ji7) : Int).toNat : List (S33))).bind fun y319 => (if y316.length + y319.length < 8796093022208 then ((some (y316 ++ y319 : List (S33))).bind fun y323 => (if 0 < (y323.length : Int) then (if y312.length + y323.length < 8796093022208 then (wageofficelaw04_shuffled.l0 k1 a1 (y312 ++ y323) l0 (l0.length : Int) (wrap64 (x11_1 + 1))) else (none)) else (none))) else (none)))) = some r := by first | (rw [hy312]; with_reducible exact H) | (have H2_ := (Option.bind_some _ _).symm.trans H; rw [hy312]; with_reducible exact H2_) | (have H2_ := (Option.bind_some _ _).symm.trans H; with_reducible exact H2_) | with_reducible exact H | (rw [hy312]; exact H) | exact H
                  have Ny312 := Aside0.mk hy312
                  clear hy312
                  obtain ⟨y316, hy316⟩ : ∃ y_ : List (S33), y_ = (([(⟨(rd_T33 l0 x11_1).f0, (rd_T33 l0 x11_1).f1⟩ : S33)] : List (S33))) := ⟨_, rfl⟩
                  replace H : ((some (x5_1.drop ((ji7) : Int).toNat : List (S33))).bind fun y319 => (if y316.length + y319.length < 8796093022208 then ((some (y316 ++ y319 : List (S33))).bind fun y323 => (if 0 < (y323.length : Int) then (if y312.length + y323.length < 8796093022208 then (wageofficelaw04_shuffled.l0 k1 a1 (y312 ++ y323) l0 (l0.length : Int) (wrap64 (x11_1 + 1))) else (none)) else (none))) else (none))) = some r := by first | (rw [hy316]; with_reducible exact H) | (have H2_ := (Option.bind_some _ _).symm.trans H; rw [hy316]; with_reducible exact H2_) | (have H2_ := (Option.bind_some _ _).symm.trans H; with_reducible exact H2_) | with_reducible exact H | (rw [hy316]; exact H) | exact H
                  have Ny316 := Aside0.mk hy316
                  clear hy316
                  have c10b0 := eq_true (of_decide_eq_true (by first | (with_reducible assumption) | assumption) : 0 ≤ (ji7))
                  have c11b0 := eq_true (of_decide_eq_true (by first | (with_reducible assumption) | assumption) : (ji7) ≤ (x5_1.length : Int))
                  obtain ⟨y319, hy319⟩ : ∃ y_ : List (S33), y_ = (x5_1.drop ((ji7) : Int).toNat) := ⟨_, rfl⟩
                  replace H : (if y316.length + y319.length < 8796093022208 then ((some (y316 ++ y319 : List (S33))).bind fun y323 => (if 0 < (y323.length : Int) then (if y312.length + y323.length < 8796093022208 then (wageofficelaw04_shuffled.l0 k1 a1 (y312 ++ y323) l0 (l0.length : Int) (wrap64 (x11_1 + 1))) else (none)) else (none))) else (none)) = some r := by first | (rw [hy319]; with_reducible exact H) | (have H2_ := (Option.bind_some _ _).symm.trans H; rw [hy319]; with_reducible exact H2_) | (have H2_ := (Option.bind_some _ _).symm.trans H; with_reducible exact H2_) | with_reducible exact H | (rw [hy319]; exact H) | exact H
                  have Ny319 := Aside0.mk hy319
                  clear hy319
                  by_cases c12 : y316.length + y319.length < 8796093022208
                  · rw [if_pos c12] at H
                    have LMc12 := Aside0.mk c12
                    clear c12
                    obtain ⟨y323, hy323⟩ : ∃ y_ : List (S33), y_ = (y316 ++ y319) := ⟨_, rfl⟩
                    replace H : (if 0 < (y323.length : Int) then (if y312.length + y323.length < 8796093022208 then (wageofficelaw04_shuffled.l0 k1 a1 (y312 ++ y323) l0 (l0.length : Int) (wrap64 (x11_1 + 1))) else (none)) else (none)) = some r := by first | (rw [hy323]; with_reducible exact H) | (have H2_ := (Option.bind_some _ _).symm.trans H; rw [hy323]; with_reducible exact H2_) | (have H2_ := (Option.bind_some _ _).symm.trans H; with_reducible exact H2_) | with_reducible exact H | (rw [hy323]; exact H) | exact H
                    have Ny323 := Aside0.mk hy323
                    clear hy323
                    by_cases c13 : 0 < (y323.length : Int)
                    · rw [if_pos c13] at H
                      have c13b0 := eq_true c13
                      have c13b1 : decide (0 < (y323.length : Int)) = true := decide_eq_true c13
                      clear c13
                      by_cases c14 : y312.length + y323.length < 8796093022208
                      · rw [if_pos c14] at H
                        have LMc14 := Aside0.mk c14
                        clear c14
                        obtain ⟨y326, hy326⟩ : ∃ y_ : List (S33), y_ = (y312 ++ y323) := ⟨_, rfl⟩
                        replace H : (wageofficelaw04_shuffled.l0 k1 a1 y326 l0 (l0.length : Int) (wrap64 (x11_1 + 1))) = some r := by first | (rw [hy326]; with_reducible exact H) | (have H2_ := (Option.bind_some _ _).symm.trans H; rw [hy326]; with_reducible exact H2_) | (have H2_ := (Option.bind_some _ _).symm.trans H; with_reducible exact H2_) | with_reducible exact H | (rw [hy326]; exact H) | exact H
                        have Ny326 := Aside0.mk hy326
                        clear hy326
                        have H' := Aside0.mk H
                        clear H
                        have p310 : 0 ≤ (x11_1 : Int) := of_decide_eq_true (by first | (with_reducible assumption) | assumption)
                        have q310 : x11_1 < (l0.length : Int) := of_decide_eq_true (by first | (with_reducible assumption) | assumption)
                        obtain ⟨ad310, e310, hx310_0, hx310_1⟩ := at_T33 HR0.out x11_1 p310 q310
                        cases e310
                        replace hx310_0 := (HB.out.cell (World.block_lt_of_cell? w _ hx310_0)).trans hx310_0
                        replace hx310_1 := (HB.out.cell (World.block_lt_of_cell? w _ hx310_1)).trans hx310_1
                        replace p310 := eq_true p310
                        replace q310 := eq_true q310
                        try go_wp2_with (first | ((with_reducible refine gate_dst (N := 7) rfl ?_); refine box_event ?hg (N := 7) ?hd (cs := #[.int .i64 0, .int .i64 0]) (t := 33) ?hr ?_; (case hd => rfl); (case hg => rfl); (case hr => first | (go_simp; done) | (go_simp; rfl)); intro gb311 hg w15 hbox hb; have n0_ := Aside0.mk (Kd.R_below (Kd.R_elderB (by (with_reducible repeat (first | apply Kd.R_alloc | apply Kd.R_drewN | apply Kd.R_drew)); exact HO_5.out) gb311 (Nat.le_of_eq hg.symm)) hb); have n1_ := Aside0.mk (below_step (by repeat (first | (with_reducible first | exact HB.out | apply below_alloc | apply pw_below_drewN | apply below_drew1) | exact HB.out)) hb); have n2_ := Aside0.mk (hbox); have n3_ := Aside0.mk ((by rw [hg]; exact (below_size (by repeat (first | (with_reducible first | exact HB.out | apply below_alloc | apply pw_below_drewN | apply below_drew1) | exact HB.out))) : w.heap.size ≤ gb311)); have n4_ := Aside0.mk ((by rw [hg]; exact (below_size (by repeat (first | (with_reducible first | exact HB.out | apply below_alloc | apply pw_below_drewN | apply below_drew1) | exact HB.out))) : w.heap.size ≤ gb311)); clear HO_5; clear HB; have HO_5 := n0_; have HB := n1_; have BK311 := n2_; have GW311 := n3_; have GE311 := n4_; clear n0_ n1_ n2_ n3_ n4_; clear hb hbox hg; have hcz16_0 : w15.cell? ⟨gb311, 0, none⟩ = some (.int .i64 0) := (blk_cell BK311.out 0).trans rfl; have hcz16_1 : w15.cell? ⟨gb311, 1, none⟩ = some (.int .i64 0) := (blk_cell BK311.out 1).trans rfl; have hfz16_0 := blk_frozen BK311.out 0; have hfz16_1 := blk_frozen BK311.out 1; obtain ⟨Ao17, co17, eo17⟩ := Kd.R_slice HO_5.out; subst eo17))
                        have n0_ : Aside0 (Kd.R k33 33 ((w15.setCell ⟨gb311, 0, none⟩ (.int .i64 ((rd_T33 l0 x11_1).f0))).setCell ⟨gb311, 1, none⟩ (.int .i64 ((rd_T33 l0 x11_1).f1))) w.heap.size (fun k_ => k_ ≠ gb311) (.slice Ao17 x5_1.length co17) x5_1) := ⟨by (with_reducible repeat (first | apply Kd.R_alloc | apply Kd.R_drewN | apply Kd.R_drew)); exact Kd.R_mono (Kd.R_far (p := ⟨gb311, 1, none⟩) (Kd.R_far (p := ⟨gb311, 0, none⟩) (Kd.R_mono HO_5.out (fun k_ hk => (⟨hk, hk.2⟩ : _ ∧ k_ ≠ gb311))) (fun _ hk => hk.2) (.int .i64 ((rd_T33 l0 x11_1).f0))) (fun _ hk => hk.2) (.int .i64 ((rd_T33 l0 x11_1).f1))) (fun _ hk => hk.1.2)⟩
                        have n1_ : Aside0 (((w15.setCell ⟨gb311, 0, none⟩ (.int .i64 ((rd_T33 l0 x11_1).f0))).setCell ⟨gb311, 1, none⟩ (.int .i64 ((rd_T33 l0 x11_1).f1))).heap[gb311]? = some (.cells #[.int .i64 ((rd_T33 l0 x11_1).f0), .int .i64 ((rd_T33 l0 x11_1).f1)] 33 (0, 0))) := ⟨by (with_reducible repeat (first | refine blk_drewN ?_ _ | refine blk_drew ?_ | refine blk_alloc ?_ _)); refine blk_put (cs := #[.int .i64 ((rd_T33 l0 x11_1).f0), .int .i64 0]) ?_ 1 _ rfl; (with_reducible repeat (first | refine blk_drewN ?_ _ | refine blk_drew ?_ | refine blk_alloc ?_ _)); refine blk_put (cs := #[.int .i64 0, .int .i64 0]) ?_ 0 _ rfl; (with_reducible repeat (first | refine blk_drewN ?_ _ | refine blk_drew ?_ | refine blk_alloc ?_ _)); exact BK311.out⟩
                        have n2_ : Aside0 (Below w.heap.size w ((w15.setCell ⟨gb311, 0, none⟩ (.int .i64 ((rd_T33 l0 x11_1).f0))).setCell ⟨gb311, 1, none⟩ (.int .i64 ((rd_T33 l0 x11_1).f1)))) := ⟨by repeat (first | (with_reducible first | exact HB.out | apply below_alloc | apply pw_below_drewN | apply below_drew1 | refine below_set ?_ GE311.out) | exact HB.out)⟩
                        (try clear HO_5)
                        (try clear BK311)
                        (try clear HB)
                        generalize ((w15.setCell ⟨gb311, 0, none⟩ (.int .i64 ((rd_T33 l0 x11_1).f0))).setCell ⟨gb311, 1, none⟩ (.int .i64 ((rd_T33 l0 x11_1).f1))) = w18 at n0_ n1_ n2_ ⊢
                        have HO_5 := n0_
                        have BK311 := n1_
                        have HB := n2_
                        clear n0_ n1_ n2_
                        have n0_ := Aside0.mk (Kd.R_drew HO_5.out)
                        have n1_ := Aside0.mk (blk_drew BK311.out)
                        have n2_ := Aside0.mk (below_drew1 HB.out)
                        clear HO_5
                        clear BK311
                        clear HB
                        have HO_5 := n0_
                        have BK311 := n1_
                        have HB := n2_
                        clear n0_ n1_ n2_
                        have q20 : ((ji7) : Int) ≤ ((x5_1.length : Int) : Int) := of_decide_eq_true (by first | (with_reducible assumption) | assumption)
                        obtain ⟨i020, hi020, _, hsz20, _⟩ := info_parts info33
                        have hroom20 : x5_1.length ≤ co17 := (Kd.R_reads' HO_5.out).2.1
                        have hC20 : Kd.C k33 _ Ao17 x5_1.length x5_1 := (Kd.R_reads' HO_5.out).2.2
                        have hcut20 := cut_cap (P := Try.prog) 22 33 .i64 .i64 Try.underlying22 hi020 Ao17 x5_1.length co17 (ji7) (of_decide_eq_true (by first | (with_reducible assumption) | assumption)) q20 hroom20
                        have hr20 := Kd.C_take (m := ((ji7) : Int).toNat) hC20 (by omega)
                        have hy20 : y312.length = ((ji7) : Int).toNat := (by rw [Ny312.out, List.length_take]; omega)
                        rw [← Ny312.out] at hr20
                        rw [← hy20] at hcut20
                        have HR315 := Aside0.mk hr20
                        have HC315 := Aside0.mk (show y312.length ≤ y312.length from by omega)
                        clear hr20 hC20 hroom20 hi020 hsz20
                        have KY20 := Aside0.mk hy20
                        clear hy20
                        have KL20 := Aside0.mk (show ((ji7) : Int).toNat ≤ x5_1.length from by omega)
                        replace q20 := eq_true q20
                        have q21 : ((ji7) : Int) ≤ ((x5_1.length : Int) : Int) := of_decide_eq_true (by first | (with_reducible assumption) | assumption)
                        obtain ⟨i021, hi021, _, hsz21, _⟩ := info_parts info33
                        have hroom21 : x5_1.length ≤ co17 := (Kd.R_reads' HO_5.out).2.1
                        have hC21 : Kd.C k33 _ Ao17 x5_1.length x5_1 := (Kd.R_reads' HO_5.out).2.2
                        have q021 : (0 : Int) ≤ ((ji7) : Int) := of_decide_eq_true (by first | (with_reducible assumption) | assumption)
                        have hcut21 := cut_from (P := Try.prog) 22 33 .i64 Try.underlying22 hi021 2 hsz21 Ao17 x5_1.length co17 (ji7) q021 q21
                        have hr21 := Kd.C_drop (m := ((ji7) : Int).toNat) (c := co17) hC21 (by omega) hroom21
                        obtain ⟨A21, hA21⟩ : ∃ A1, A1 = (if co17 = ((ji7) : Int).toNat then Ao17 else (Ao17 : Option Addr).map (·.add (((ji7) : Int).toNat * 2))) := ⟨_, rfl⟩
                        obtain ⟨c21, hc21⟩ : ∃ c1, c1 = co17 - ((ji7) : Int).toNat := ⟨_, rfl⟩
                        have hy21 : y319.length = x5_1.length - ((ji7) : Int).toNat := (by rw [Ny319.out, List.length_drop] <;> omega)
                        rw [show (x5_1).drop ((ji7) : Int).toNat = y319 from Ny319.out.symm] at hr21
                        replace hr21 : Kd.C k33 _ A21 y319.length y319 := (by rw [hA21]; exact hr21)
                        rw [← hy21, ← hA21, ← hc21] at hcut21
                        have HR322 := Aside0.mk hr21
                        have HC322 := Aside0.mk (show y319.length ≤ c21 from by rw [hy21, hc21]; exact Nat.sub_le_sub_right hroom21 _)
                        clear hr21 hC21 hroom21 hi021 hsz21 hc21
                        have KY21 := Aside0.mk hy21
                        have KA21 := Aside0.mk hA21
                        clear hy21 hA21
                        have KL21 := Aside0.mk (show ((ji7) : Int).toNat ≤ x5_1.length from by omega)
                        replace q21 := eq_true q21
                        refine start_ (n := 12) (S := fun w' => w'.cell? ⟨gb311, 0, none⟩ = some (.int .i64 ((rd_T33 l0 x11_1).f0)) ∧ w'.cell? ⟨gb311, 1, none⟩ = some (.int .i64 ((rd_T33 l0 x11_1).f1))) (ds := []) #[false, false, false, false, false, false, false, false, false, false, false, false] (by kernel_rfl) rfl rfl ⟨(blk_cell BK311.out 0).trans rfl, (blk_cell BK311.out 1).trans rfl⟩ (fun hHeld => ?_); refine with_tabW wageofficelaw04_shuffled.tab6 wageofficelaw04_shuffled.bits6 (fun HT_ HW_ => ?_)
                        generalize w18.drew = w19 at HO_5 BK311 HB HR315 HR322 hHeld ⊢
                        refine pure_ (i := 0) (N := some 25) (v := ?_) (a' := ?_) #[true, false, false, false, false, false, false, false, false, false, false, false] rfl rfl (any_of HT_.out (by kernel_rfl)) (fun _ _ _ h => h) (Or.inl ⟨by rfl, ?_⟩) ?_ ?_
                        rotate_left
                        · intro w'
                          go_simp
                          with_reducible rfl
                        rotate_left
                        · simp only [Act.put, List.setIfInBounds_toArray, List.set_cons_zero, List.set_cons_succ, i64_w, i32_w]
                          rfl
                        refine pure_ (i := 1) (N := some 26) (v := ?_) (a' := ?_) #[true, true, false, false, false, false, false, false, false, false, false, false] rfl rfl (any_of HT_.out (by kernel_rfl)) (fun _ _ _ h => h) (Or.inl ⟨by rfl, ?_⟩) ?_ ?_
                        rotate_left
                        · intro w'
                          go_simp
                          with_reducible rfl
                        rotate_left
                        · simp only [Act.put, List.setIfInBounds_toArray, List.set_cons_zero, List.set_cons_succ, i64_w, i32_w]
                          rfl
                        refine pure_ (i := 2) (N := some 27) (v := ?_) (a' := ?_) #[true, true, true, false, false, false, false, false, false, false, false, false] rfl rfl (any_of HT_.out (by kernel_rfl)) (fun _ _ _ h => h) (Or.inl ⟨by rfl, ?_⟩) ?_ ?_
                        rotate_left
                        · intro w'
                          go_simp
                          with_reducible rfl
                        rotate_left
                        · simp only [Act.put, List.setIfInBounds_toArray, List.set_cons_zero, List.set_cons_succ, i64_w, i32_w]
                          rfl
                        refine pure_ (i := 3) (N := some 28) (v := ?_) (a' := ?_) #[true, true, true, true, false, false, false, false, false, false, false, false] rfl rfl (any_of HT_.out (by kernel_rfl)) (fun _ _ _ h => h) (Or.inl ⟨by rfl, ?_⟩) ?_ ?_
                        rotate_left
                        · intro w'
                          go_simp
                          with_reducible rfl
                        rotate_left
                        · simp only [Act.put, List.setIfInBounds_toArray, List.set_cons_zero, List.set_cons_succ, i64_w, i32_w]
                          rfl
                        refine pure_ (i := 6) (N := some 31) (v := ?_) (a' := ?_) #[true, true, true, true, false, false, true, false, false, false, false, false] rfl rfl (any_of HT_.out (by kernel_rfl)) (fun _ _ _ h => h) (Or.inl ⟨by rfl, ?_⟩) ?_ ?_
                        rotate_left
                        · intro w'
                          go_simp
                          with_reducible rfl
                        rotate_left
                        · simp only [Act.put, List.setIfInBounds_toArray, List.set_cons_zero, List.set_cons_succ, i64_w, i32_w]
                          rfl
                        refine pure_ (i := 7) (N := some 32) (v := ?_) (a' := ?_) #[true, true, true, true, false, false, true, true, false, false, false, false] rfl rfl (any_of HT_.out (by kernel_rfl)) (fun _ _ _ h => h) (Or.inl ⟨by rfl, ?_⟩) ?_ ?_
                        rotate_left
                        · intro w'
                          go_simp
                          with_reducible rfl
                        rotate_left
                        · simp only [Act.put, List.setIfInBounds_toArray, List.set_cons_zero, List.set_cons_succ, i64_w, i32_w]
                          rfl
                        refine pure_ (i := 8) (N := some 33) (v := ?_) (a' := ?_) #[true, true, true, true, false, false, true, true, true, false, false, false] rfl rfl (any_of HT_.out (by kernel_rfl)) (fun _ _ _ h => h) (Or.inl ⟨by rfl, ?_⟩) ?_ ?_
                        rotate_left
                        · intro w'
                          go_simp
                          with_reducible rfl
                        rotate_left
                        · simp only [Act.put, List.setIfInBounds_toArray, List.set_cons_zero, List.set_cons_succ, i64_w, i32_w]
                          rfl
                        refine take_ (i := 4) (N := some 29) (v := ?_) (a' := ?_) #[true, true, true, true, true, false, true, true, true, false, false, false] rfl rfl (take_ofW HT_.out HW_.out (by kernel_rfl)) (fun _ _ _ h => h) (Or.inl ⟨by rfl, ?_⟩) hHeld ?_ ?_
                        rotate_left
                        · rintro w' ⟨s0, s1⟩
                          go_simp
                          with_reducible rfl
                        rotate_left
                        · simp only [Act.put, List.setIfInBounds_toArray, List.set_cons_zero, List.set_cons_succ, i64_w, i32_w]
                          rfl
                        refine one_ (i := 5) (N := some 30) #[true, true, true, true, true, true, true, true, true, false, false, false] rfl rfl (one_of HT_.out (by kernel_rfl)) (by decide) (fun K hK => ?_)
                        refine Kd.R_lit_step k33 _ 33 ?hg (N := 30) ?hd (xs := ([(⟨(rd_T33 l0 x11_1).f0, (rd_T33 l0 x11_1).f1⟩ : S33)] : List (S33))) (inner := [.int .i64 ((rd_T33 l0 x11_1).f0), .int .i64 ((rd_T33 l0 x11_1).f1)]) (ok := fun _ => True) (okp := fun _ => True) ?hr ?hp (fun _ hk => hk) trivial (Below.refl _ _) (Nat.le_refl _) (by simp) ?_; (case hd => rfl); (case hg => rfl); (case hr => first | (go_simp; done) | (go_simp; rfl)); (case hp => exact (Reps.c2 (show Kd.M k33 _ _ _ (⟨(rd_T33 l0 x11_1).f0, (rd_T33 l0 x11_1).f1⟩ : S33) [.int .i64 ((rd_T33 l0 x11_1).f0), .int .i64 ((rd_T33 l0 x11_1).f1)] from (k33_mkM _ _ _ (⟨(rd_T33 l0 x11_1).f0, (rd_T33 l0 x11_1).f1⟩ : S33) )) (Reps.none _ _)))
                        intro v317 w22 ho23 hb hg_ hnew_
                        clear hg_ hnew_
                        (first | rw [← Ny316.out] at ho23 | (simp only [Int.reduceToNat] at ho23; rw [← Ny316.out] at ho23))
                        have n0_ := Aside0.mk (Kd.R_elder' (by (with_reducible repeat (first | apply Kd.R_alloc | apply Kd.R_drewN | apply Kd.R_drew)); exact HO_5.out) (Kd.R_base ho23) hb)
                        have n1_ := Aside0.mk (Kd.R_lower (Kd.R_newB (Kd.R_new' ho23 (Kd.R_lt (by (with_reducible repeat (first | apply Kd.R_alloc | apply Kd.R_drewN | apply Kd.R_drew)); exact HO_5.out))) (g := gb311) (o := .cells #[.int .i64 ((rd_T33 l0 x11_1).f0), .int .i64 ((rd_T33 l0 x11_1).f1)] 33 (0, 0)) (by (with_reducible repeat (first | refine blk_drewN ?_ _ | refine blk_drew ?_ | refine blk_alloc ?_ _)); exact BK311.out)) (below_size (by repeat (first | (with_reducible first | exact HB.out | apply below_alloc | apply pw_below_drewN | apply below_drew1 | refine below_set ?_ GE311.out) | exact HB.out))))
                        have n2_ := Aside0.mk (blk_below (g := gb311) (o := .cells #[.int .i64 ((rd_T33 l0 x11_1).f0), .int .i64 ((rd_T33 l0 x11_1).f1)] 33 (0, 0)) (by (with_reducible repeat (first | refine blk_drewN ?_ _ | refine blk_drew ?_ | refine blk_alloc ?_ _)); exact BK311.out) hb)
                        have n3_ := Aside0.mk (Kd.C_below (by repeat (first | (with_reducible exact HR315.out) | (with_reducible refine Kd.C_alloc ?_ _) | (with_reducible refine Kd.C_drewN ?_ _) | (with_reducible refine Kd.C_drew ?_) | exact HR315.out)) hb)
                        have n4_ := Aside0.mk (Kd.C_below (by repeat (first | (with_reducible exact HR322.out) | (with_reducible refine Kd.C_alloc ?_ _) | (with_reducible refine Kd.C_drewN ?_ _) | (with_reducible refine Kd.C_drew ?_) | exact HR322.out)) hb)
                        have n5_ := Aside0.mk (below_step (by repeat (first | (with_reducible first | exact HB.out | apply below_alloc | apply pw_below_drewN | apply below_drew1 | refine below_set ?_ GE311.out) | exact HB.out)) hb)
                        clear HO_5
                        clear BK311
                        clear HR315
                        clear HR322
                        clear HB
                        have HO_5 := n0_
                        have HO318 := n1_
                        have BK311 := n2_
                        have HR315 := n3_
                        have HR322 := n4_
                        have HB := n5_
                        clear n0_ n1_ n2_ n3_ n4_ n5_
                        clear hb ho23
                        refine hK.out _ _ ⟨(blk_cell BK311.out 0).trans rfl, (blk_cell BK311.out 1).trans rfl⟩ (fun hHeld => ?_)
                        clear hK K
                        refine norm_ (a' := ?_) ?_ ?_
                        rotate_left
                        · show Act.put _ (some 30) _ = _
                          simp only [Act.put, List.setIfInBounds_toArray, List.set_cons_zero, List.set_cons_succ, i64_w, i32_w]
                          rfl
                        refine one_ (i := 9) (N := some 34) #[true, true, true, true, true, true, true, true, true, true, false, false] rfl rfl (one_of HT_.out (by kernel_rfl)) (by decide) (fun K hK => ?_)
                        refine Kd.R_append_rows_step k33 (w0 := w) w.heap.size (by rfl) (.tmp 30) (.tmp 33) 22 33 (.agg #[(.int .i64 0), (.int .i64 0)]) 16 rfl Try.underlying22 info33 rfl (by decide) (by omega) v317 y316 y319 _ _ _ (fun k_ => some k_ ≠ (.slice Ao17 x5_1.length co17 : Value).ownBlock ∧ k_ ≠ gb311) (fun _ => False) rfl rfl ?aO ?aR (fun _ _ h => h) (fun _ h => h.elim) ?aF ?aB ?aS ?aL ?_
                        (case aR => repeat (first | exact (by repeat (first | (with_reducible exact HR322.out) | (with_reducible refine Kd.C_alloc ?_ _) | (with_reducible refine Kd.C_drewN ?_ _) | (with_reducible refine Kd.C_drew ?_) | exact HR322.out)) | (with_reducible refine Kd.C_alloc ?_ _) | (with_reducible refine Kd.C_drewN ?_ _) | (with_reducible refine Kd.C_drew ?_)))
                        (case aB => exact (by repeat (first | (with_reducible first | exact HB.out | apply below_alloc | apply pw_below_drewN | apply below_drew1 | refine below_set ?_ GE311.out) | exact HB.out)))
                        (case aF => exact (fun k_ hk => ⟨Kd.fresh' (Kd.R_lt (by (with_reducible repeat (first | apply Kd.R_alloc | apply Kd.R_drewN | apply Kd.R_drew)); exact HO_5.out)) k_ hk, Kd.freshB (g := gb311) (o := .cells #[.int .i64 ((rd_T33 l0 x11_1).f0), .int .i64 ((rd_T33 l0 x11_1).f1)] 33 (0, 0)) (by (with_reducible repeat (first | refine blk_drewN ?_ _ | refine blk_drew ?_ | refine blk_alloc ?_ _)); exact BK311.out) k_ hk⟩))
                        (case aO => exact (by (with_reducible repeat (first | apply Kd.R_alloc | apply Kd.R_drewN | apply Kd.R_drew)); exact Kd.R_mono HO318.out (fun _ hk => ⟨hk.1.2, hk.2⟩)))
                        (case aS => exact (below_size (by repeat (first | (with_reducible first | exact HB.out | apply below_alloc | apply pw_below_drewN | apply below_drew1 | refine below_set ?_ GE311.out) | exact HB.out))))
                        (case aL => have := LMc12.out; omega)
                        intro v324 w24 ho hb hg hat
                        rw [← Ny323.out] at ho
                        have n0_ := Aside0.mk (Kd.R_after (ok := (fun k_ => k_ ≠ gb311)) (by (with_reducible repeat (first | apply Kd.R_alloc | apply Kd.R_drewN | apply Kd.R_drew)); exact HO_5.out) hg hat)
                        have n1_ := Aside0.mk (blk_grown (g := gb311) (o := .cells #[.int .i64 ((rd_T33 l0 x11_1).f0), .int .i64 ((rd_T33 l0 x11_1).f1)] 33 (0, 0)) (by (with_reducible repeat (first | refine blk_drewN ?_ _ | refine blk_drew ?_ | refine blk_alloc ?_ _)); exact BK311.out) hg (Kd.R_away HO318.out (fun _ hk => hk.2)))
                        have n2_ := Aside0.mk (hb)
                        have n3_ := Aside0.mk ((show Kd.C k33 w24 Ao17 y312.length y312 from by rw [Ny312.out]; exact Kd.C_take (m := ((ji7) : Int).toNat) ((Kd.R_reads' (Kd.R_after (ok := (fun k_ => k_ ≠ gb311)) (by (with_reducible repeat (first | apply Kd.R_alloc | apply Kd.R_drewN | apply Kd.R_drew)); exact HO_5.out) hg hat)).2.2) KL20.out))
                        have n4_ := Aside0.mk ((show Kd.C k33 w24 A21 y319.length y319 from by rw [Ny319.out, KA21.out]; exact Kd.C_drop (m := ((ji7) : Int).toNat) (c := co17) ((Kd.R_reads' (Kd.R_after (ok := (fun k_ => k_ ≠ gb311)) (by (with_reducible repeat (first | apply Kd.R_alloc | apply Kd.R_drewN | apply Kd.R_drew)); exact HO_5.out) hg hat)).2.2) KL21.out ((Kd.R_reads' (Kd.R_after (ok := (fun k_ => k_ ≠ gb311)) (by (with_reducible repeat (first | apply Kd.R_alloc | apply Kd.R_drewN | apply Kd.R_drew)); exact HO_5.out) hg hat)).2.1)))
                        have n5_ := Aside0.mk (ho)
                        clear HO_5
                        clear BK311
                        clear HB
                        clear HR315
                        clear HR322
                        clear HO318
                        have HO_5 := n0_
                        have BK311 := n1_
                        have HB := n2_
                        have HR315 := n3_
                        have HR322 := n4_
                        have HO325 := n5_
                        clear n0_ n1_ n2_ n3_ n4_ n5_
                        clear ho hb hg hat
                        obtain ⟨Ao26, co26, eo26⟩ := Kd.R_slice HO325.out
                        (first | subst eo26 | (injection eo26 with f1_ f2_ f3_; have f4_ := f1_.symm; have f5_ := f3_.symm; clear f1_ f2_ f3_; subst f4_; subst f5_))
                        refine hK.out _ _ ⟨(blk_cell BK311.out 0).trans rfl, (blk_cell BK311.out 1).trans rfl⟩ (fun hHeld => ?_)
                        clear hK K
                        refine norm_ (a' := ?_) ?_ ?_
                        rotate_left
                        · show Act.put _ (some 34) _ = _
                          simp only [Act.put, List.setIfInBounds_toArray, List.set_cons_zero, List.set_cons_succ, i64_w, i32_w]
                          rfl
                        refine one_ (i := 10) (N := some 35) #[true, true, true, true, true, true, true, true, true, true, true, false] rfl rfl (one_of HT_.out (by kernel_rfl)) (by decide) (fun K hK => ?_)
                        refine Kd.R_append_view_step k33 (w0 := w) w.heap.size (by rfl) (.tmp 28) (.tmp 34) 22 33 (.agg #[(.int .i64 0), (.int .i64 0)]) 16 rfl Try.underlying22 info33 rfl (by decide) (by omega) y312 y323 _ _ _ _ _ (fun k_ => some k_ ≠ (.slice Ao17 x5_1.length co17 : Value).ownBlock ∧ some k_ ≠ (.slice Ao26 y323.length co26 : Value).ownBlock ∧ k_ ≠ gb311) (fun _ => False) rfl rfl ?aO ?aR (fun _ _ h => h) (fun _ _ h => h) (fun _ h => h.elim) ?aF ?aB ?aS ?aM ?aL ?_
                        (case aR => repeat (first | exact (Kd.R_reads' HO325.out).2.2 | (with_reducible refine Kd.C_alloc ?_ _) | (with_reducible refine Kd.C_drewN ?_ _) | (with_reducible refine Kd.C_drew ?_)))
                        (case aM => have hpos_ : (0 : Int) < (y323.length : Int) := of_decide_eq_true (by first | (with_reducible assumption) | assumption); omega)
                        (case aB => exact (by repeat (first | (with_reducible first | exact HB.out | apply below_alloc | apply pw_below_drewN | apply below_drew1 | refine below_set ?_ GE311.out) | exact HB.out)))
                        (case aF => exact (fun k_ hk => ⟨Kd.fresh' (Kd.R_lt (by (with_reducible repeat (first | apply Kd.R_alloc | apply Kd.R_drewN | apply Kd.R_drew)); exact HO_5.out)) k_ hk, Kd.fresh' (Kd.R_lt (by (with_reducible repeat (first | apply Kd.R_alloc | apply Kd.R_drewN | apply Kd.R_drew)); exact HO325.out)) k_ hk, Kd.freshB (g := gb311) (o := .cells #[.int .i64 ((rd_T33 l0 x11_1).f0), .int .i64 ((rd_T33 l0 x11_1).f1)] 33 (0, 0)) (by (with_reducible repeat (first | refine blk_drewN ?_ _ | refine blk_drew ?_ | refine blk_alloc ?_ _)); exact BK311.out) k_ hk⟩))
                        (case aO => exact (by repeat (first | exact (by repeat (first | (with_reducible exact HR315.out) | (with_reducible refine Kd.C_alloc ?_ _) | (with_reducible refine Kd.C_drewN ?_ _) | (with_reducible refine Kd.C_drew ?_) | exact HR315.out)) | (with_reducible refine Kd.C_alloc ?_ _) | (with_reducible refine Kd.C_drewN ?_ _) | (with_reducible refine Kd.C_drew ?_))))
                        (case aS => exact (below_size (by repeat (first | (with_reducible first | exact HB.out | apply below_alloc | apply pw_below_drewN | apply below_drew1 | refine below_set ?_ GE311.out) | exact HB.out))))
                        (case aL => have := LMc14.out; omega)
                        intro v327 w25 ho hb hg hat
                        rw [← Ny326.out] at ho
                        have n0_ := Aside0.mk (Kd.R_after (Kd.R_apart_nil (by (with_reducible repeat (first | apply Kd.R_alloc | apply Kd.R_drewN | apply Kd.R_drew)); exact HO_5.out)) hg hat)
                        have n1_ := Aside0.mk (blk_grown (g := gb311) (o := .cells #[.int .i64 ((rd_T33 l0 x11_1).f0), .int .i64 ((rd_T33 l0 x11_1).f1)] 33 (0, 0)) (by (with_reducible repeat (first | refine blk_drewN ?_ _ | refine blk_drew ?_ | refine blk_alloc ?_ _)); exact BK311.out) hg (by simp [Value.ownBlock]))
                        have n2_ := Aside0.mk (Kd.R_after (Kd.R_apart_nil (by (with_reducible repeat (first | apply Kd.R_alloc | apply Kd.R_drewN | apply Kd.R_drew)); exact HO325.out)) hg hat)
                        have n3_ := Aside0.mk (hb)
                        have n4_ := Aside0.mk ((show Kd.C k33 w25 Ao17 y312.length y312 from by rw [Ny312.out]; exact Kd.C_take (m := ((ji7) : Int).toNat) ((Kd.R_reads' (Kd.R_after (Kd.R_apart_nil (by (with_reducible repeat (first | apply Kd.R_alloc | apply Kd.R_drewN | apply Kd.R_drew)); exact HO_5.out)) hg hat)).2.2) KL20.out))
                        have n5_ := Aside0.mk ((show Kd.C k33 w25 A21 y319.length y319 from by rw [Ny319.out, KA21.out]; exact Kd.C_drop (m := ((ji7) : Int).toNat) (c := co17) ((Kd.R_reads' (Kd.R_after (Kd.R_apart_nil (by (with_reducible repeat (first | apply Kd.R_alloc | apply Kd.R_drewN | apply Kd.R_drew)); exact HO_5.out)) hg hat)).2.2) KL21.out ((Kd.R_reads' (Kd.R_after (Kd.R_apart_nil (by (with_reducible repeat (first | apply Kd.R_alloc | apply Kd.R_drewN | apply Kd.R_drew)); exact HO_5.out)) hg hat)).2.1)))
                        have n6_ := Aside0.mk (ho)
                        clear HO_5
                        clear BK311
                        clear HO325
                        clear HB
                        clear HR315
                        clear HR322
                        have HO_5 := n0_
                        have BK311 := n1_
                        have HO325 := n2_
                        have HB := n3_
                        have HR315 := n4_
                        have HR322 := n5_
                        have HO328 := n6_
                        clear n0_ n1_ n2_ n3_ n4_ n5_ n6_
                        clear ho hb hg hat
                        refine hK.out _ _ ⟨(blk_cell BK311.out 0).trans rfl, (blk_cell BK311.out 1).trans rfl⟩ (fun hHeld => ?_)
                        clear hK K
                        refine norm_ (a' := ?_) ?_ ?_
                        rotate_left
                        · show Act.put _ (some 35) _ = _
                          simp only [Act.put, List.setIfInBounds_toArray, List.set_cons_zero, List.set_cons_succ, i64_w, i32_w]
                          rfl
                        refine pure_ (i := 11) (N := some 5) (v := ?_) (a' := ?_) #[true, true, true, true, true, true, true, true, true, true, true, true] rfl rfl (any_of HT_.out (by kernel_rfl)) (fun _ _ _ h => h) (Or.inl ⟨by rfl, ?_⟩) ?_ ?_
                        rotate_left
                        · intro w'
                          go_simp
                          with_reducible rfl
                        rotate_left
                        · simp only [Act.put, List.setIfInBounds_toArray, List.set_cons_zero, List.set_cons_succ, i64_w, i32_w]
                          rfl
                        refine done_ (done_of HT_.out (by kernel_rfl)) ?_
                        try go_wp2
                        go_roundg k1
                        case measure => have := HK1.out; omega
                        case rel => exact ⟨(y326), (wrap64 (x11_1 + 1)), (by first | rfl | (simp; done) | (simp [*]; done)), H', ⟨by have := HK1.out; omega⟩, ⟨by (with_reducible repeat (first | apply Kd.R_alloc | apply Kd.R_drewN | apply Kd.R_drew)); exact Kd.R_mono HO328.out (fun _ hk => trivial)⟩, ⟨by repeat (first | (with_reducible first | exact HB.out | apply below_alloc | apply pw_below_drewN | apply below_drew1 | refine below_set ?_ GE311.out) | exact HB.out)⟩⟩
                      · rw [if_neg c14] at H
                        exact absurd H (by simp)
                    · rw [if_neg c13] at H
                      exact absurd H (by simp)
                  · rw [if_neg c12] at H
                    exact absurd H (by simp)
                · rw [if_neg c9] at H
                  exact absurd H (by simp)
              · rw [if_neg c8] at H
                exact absurd H (by simp)
          · rw [if_neg c5] at H
            exact absurd H (by simp)
        · rw [if_neg c4] at H
          exact absurd H (by simp)
      · rw [if_neg c3] at H
        have c3b0 : decide (x11_1 < (l0.length : Int)) = false := decide_eq_false c3
        clear c3
        obtain rfl := Option.some.inj H
        go_wp2
        go_ret
        exact ⟨_, by first | rfl | (simp [errW_none, errW_some] <;> rfl) | (simp [*, errW_none, errW_some] <;> rfl), by (with_reducible repeat (first | apply Kd.R_alloc | apply Kd.R_drewN | apply Kd.R_drew)); exact HO_5.out, by repeat (first | (with_reducible first | exact HB.out | apply below_alloc | apply pw_below_drewN | apply below_drew1) | exact HB.out)⟩
end Go.Proofs.Ytgplnfhpeeifjaa.Q
