/- For any list and order, recording keeps the elements and the list valid; afterwards exactly this order is open under its number for the months from its own on, unless its claim is 0, and the orders with other numbers are open as before; an order that is not recorded changes nothing and would violate a rule; every argument that the types admit
   The walk of the law's code and its plain law (merged by wip/tools/trim.py out of own texts and of texts that the kit's printer wrote). -/
import Derived.Test.YtgbcihbnaecejaaCRcd2
import Derived.Outline
import Derived.IntWalk
import Derived.Deep.RegionWith
import Derived.Deep.QuietTactic
import Derived.BigQuiet
import Derived.Sort.OwnSorted
import Derived.Shelf.SlSortCmp.NoneTotal
import Derived.Ground.SlsfProg
import Derived.Shelf.SlSortCmp.WholeK
import Derived.Test.YtgbcihbnaecejaaProg
import Derived.WalkSpells
import Derived.Deep.RegionHeld3
import Derived.Shelf.SlicesQ.IndexFunc
import Derived.Ground.SlgfProg
import Derived.Maps.AppendAt
import Derived.Deep.RegionLaw
namespace Go.Proofs.Ytgbcihbnaecejaa.Q
open Go Go.RowKit Go.Maps Go.Proofs.YtgbcihbnaecejaaW.PrintWords Go.Proofs.YtgbcihbnaecejaaW.PrintLast Go.Proofs.YtgbcihbnaecejaaW.PrintMore
set_option linter.unusedVariables false
set_option linter.unusedSimpArgs false
abbrev okI (x : Int) : Prop := (Lit.int .i64 x).wf = true
abbrev litI (x : Int) : Lit := .int .i64 x
abbrev okS (x : ByteArray) : Prop := x.size ≤ maxLen
abbrev litS (x : ByteArray) : Lit := .string x.data.toList
theorem keyI : KeyB Try.prog 3 okI (fun x => .int .i64 x) litI := KeyB.int Try.underlying3
theorem keyS : KeyB Try.prog 9 okS (fun x => .string x) litS := KeyB.string Try.underlying9
theorem zeroI (w : World) : (zeroValue 3).run Try.prog w = .ok (.int .i64 0) w := by kernel_rfl
theorem zeroP (w : World) : (zeroValue 48).run Try.prog w = .ok (.agg #[.string ⟨#[]⟩, .string ⟨#[]⟩]) w := by kernel_rfl
abbrev pa (p c : ByteArray) : Value := .agg #[.string p, .string c]
def G1 (pre : List Od) (g : Int → Option Value) : Prop := ∀ n, (∃ x ∈ pre, x.f0 = n ∧ g n = some (pa x.f1 x.f2)) ∨ ((∀ x ∈ pre, x.f0 ≠ n) ∧ g n = none)
def G2 (pre : List Od) (g : ByteArray → Option Value) : Prop := ∀ p, (g p).getD (.int .i64 0) = .int .i64 (nums p [] pre)
def VInv (w : World) (pre : List Od) (k : Nat) (wr : World) : Prop :=
  validFrom [] pre = true ∧ (∃ g, MapT Try.prog 3 okI litI wr w.heap.size k g ∧ G1 pre g) ∧ (∃ g, MapT Try.prog 9 okS litS wr (w.heap.size + 1) k g ∧ G2 pre g) ∧ Below w.heap.size w wr
theorem od_blk {W : World} {b : Nat} {o : Od} (h : W.heap[b]? = some (.cells #[.int .i64 o.f0, .string o.f1, .string o.f2, .int .i64 o.f3, .int .i64 o.f4, .int .i64 o.f5, .int .i64 o.f6, .bool o.f7] 24 (0, 0))) : W.cell? ⟨b, 0, none⟩ = some (.int .i64 o.f0) ∧ W.cell? ⟨b, 1, none⟩ = some (.string o.f1) ∧ W.cell? ⟨b, 2, none⟩ = some (.string o.f2) ∧ W.cell? ⟨b, 3, none⟩ = some (.int .i64 o.f3) ∧ W.cell? ⟨b, 4, none⟩ = some (.int .i64 o.f4) ∧ W.cell? ⟨b, 5, none⟩ = some (.int .i64 o.f5) ∧ W.cell? ⟨b, 6, none⟩ = some (.int .i64 o.f6) ∧ W.cell? ⟨b, 7, none⟩ = some (.bool o.f7) :=
  ⟨blk_cell h 0, blk_cell h 1, blk_cell h 2, blk_cell h 3, blk_cell h 4, blk_cell h 5, blk_cell h 6, blk_cell h 7⟩
theorem G1.keep {pre : List Od} {g : Int → Option Value} {o x : Od} (h : G1 pre g) (hx : x ∈ pre) (he : x.f0 = o.f0) : G1 (pre ++ [o]) g := by
  intro n
  rcases h n with ⟨y, a, b, c⟩ | ⟨a, b⟩
  · exact .inl ⟨y, by simp [a], b, c⟩
  · refine .inr ⟨fun y hy => ?_, b⟩
    rcases List.mem_append.1 hy with hy | hy
    · exact a y hy
    · rw [List.mem_singleton.1 hy, ← he]
      exact a x hx
theorem G1.put {pre : List Od} {g : Int → Option Value} {o : Od} (h : G1 pre g) : G1 (pre ++ [o]) (putT g o.f0 (pa o.f1 o.f2)) := by
  intro n
  by_cases e : n = o.f0
  · exact .inl ⟨o, by simp, e.symm, by rw [e, putT_same]⟩
  · rw [putT_ne _ _ e]
    rcases h n with ⟨y, a, b, c⟩ | ⟨a, b⟩
    · exact .inl ⟨y, by simp [a], b, c⟩
    · refine .inr ⟨fun y hy => ?_, b⟩
      rcases List.mem_append.1 hy with hy | hy
      · exact a y hy
      · rw [List.mem_singleton.1 hy]
        exact fun h => e h.symm
theorem G2.keep {pre : List Od} {g : ByteArray → Option Value} {o : Od} (h : G2 pre g) (hn : newIn pre o = false) : G2 (pre ++ [o]) g := by
  intro p
  rw [h p, nums_snoc, hn]
  simp
theorem G2.put {pre : List Od} {g : ByteArray → Option Value} {o : Od} (h : G2 pre g) (hn : newIn pre o = true) : G2 (pre ++ [o]) (putT g o.f1 (.int .i64 ((nums o.f1 [] pre : Nat) + 1 : Int))) := by
  intro p
  rw [nums_snoc, hn]
  by_cases e : p = o.f1
  · subst e
    rw [putT_same]
    simp
  · rw [putT_ne _ _ e, h p, if_neg (fun h => e h.1.symm), Nat.add_zero]
def orders_Valid.f (l0 : List Od) : Option (Bool) := some (valid l0)
set_option maxRecDepth 100000 in
set_option maxHeartbeats 4000000 in
theorem valid_any (A0 : Option Addr) (c0 : Nat) (l0 : List Od) (w : World) (hr0 : Kd.C k24 w A0 l0.length l0) (hc0 : l0.length ≤ c0) :
    Calls Try.prog 14 #[.slice A0 l0.length c0] w fun e w' => e = .returned (.bool (valid l0)) ∧ Below w.heap.size w w' := by
  have HC := Lib.hid hr0
  have HL := Lib.hid hc0
  clear hr0 hc0
  by_cases hlen : l0.length ≤ 400
  · have hmm := @run_makeMap Try.prog
    go_enter Try.func14, Try.ntmps14
    go_wp2
    go_loopw [17] (fun i wr => ∃ k : Nat, k ≤ l0.length ∧ i = .int .i64 k ∧ VInv w (l0.take k) k wr) (fun i _ => l0.length - (intOf i).toNat)
    case atStart => 
      refine ⟨0, Nat.zero_le _, rfl, rfl, ⟨_, (MapT.made _ _ _ _ _).alloc _, fun n => .inr ⟨by simp, rfl⟩⟩, ⟨fun _ => none, ?_, fun p => rfl⟩, below_alloc (below_alloc (Below.refl _ _) _) _⟩
      have := MapT.made Try.prog 9 okS litS (w.alloc (.map #[] 0))
      rwa [World.size_alloc] at this
    case round =>
      obtain ⟨k, hk, rfl, hI⟩ := hrel
      by_cases hlt : k < l0.length
      · have HB := Lib.hid hI.2.2.2
        obtain ⟨ad, rfl, a0, a1, a2, a3, a4, a5, a6, a7⟩ := od_cells (Kd.C_below HC.out HB.out) hlt
        generalize ho : odAt l0 k = o at *
        have HO := Lib.hid ho
        have HI := Lib.hid hI
        clear ho hI
        cases hf : formedOk o with
        | false =>
          have HF := Lib.hid (formed_b hf)
          have HV := Lib.hid (valid_stop hlt (by rw [HO.out]; unfold okNext; rw [hf]; rfl))
          clear hf
          go_wp2_with fail
          refine start_ (n := 18) (S := fun W => W.heap[wr.heap.size]? = some (.cells #[.int .i64 o.f0, .string o.f1, .string o.f2, .int .i64 o.f3, .int .i64 o.f4, .int .i64 o.f5, .int .i64 o.f6, .bool o.f7] 24 (0, 0)) ∧ Below wr.heap.size wr W) (ds := []) #[false, false, false, false, false, false, false, false, false, false, false, false, false, false, false, false, false, false] (by kernel_rfl) rfl rfl ⟨blk_drew (World.alloc_heap_new _ _), below_drew1 (below_alloc (Below.refl _ _) _)⟩ (fun hHeld => ?_)
          refine take_ (i := 0) (N := (some 22)) (v := ?_) (a' := ?_) #[true, false, false, false, false, false, false, false, false, false, false, false, false, false, false, false, false, false] rfl rfl (by kernel_rfl) (fun _ _ _ h => h) (Or.inl ⟨by rfl, ?_⟩) hHeld ?_ ?_
          rotate_left
          · rintro w' ⟨s, -⟩
            obtain ⟨c0, c1, c2, c3, c4, c5, c6, c7⟩ := od_blk s
            clear s
            go_simp
            with_reducible rfl
          rotate_left
          · simp only [Act.put, List.setIfInBounds_toArray, List.set_cons_zero, List.set_cons_succ, i64_w, i32_w]
            rfl
          refine one_ (i := 1) (N := (some 23)) #[true, true, false, false, false, false, false, false, false, false, false, false, false, false, false, false, false, false] rfl rfl (by kernel_rfl) (by decide) (fun K hK => ?_)
          refine goes_ Try.func20 (by kernel_rfl) rfl #[odV o] (by rfl) rfl rfl (by (try simp only [List.map_toArray, List.map_cons, List.map_nil]); first | done | rfl) ?_
          with_reducible refine (HF.out _).mono ?_
          rintro e w' ⟨rfl, hb⟩
          refine ⟨_, rfl, ?_⟩
          refine hK.out _ _ ⟨blk_below hHeld.1 hb, below_step hHeld.2 hb⟩ (fun hHeld => ?_)
          clear hK K
          clear hb
          refine norm_ (a' := ?_) ?_ ?_
          rotate_left
          · show Act.put _ (some 23) _ = _
            simp only [Act.put, List.setIfInBounds_toArray, List.set_cons_zero, List.set_cons_succ, i64_w, i32_w]
            rfl
          refine pure_ (i := 2) (N := (some 24)) (v := ?_) (a' := ?_) #[true, true, true, false, false, false, false, false, false, false, false, false, false, false, false, false, false, false] rfl rfl (by kernel_rfl) (fun _ _ _ h => h) (Or.inl ⟨by rfl, ?_⟩) ?_ ?_
          rotate_left
          · intro w'
            go_simp
            with_reducible rfl
          rotate_left
          · simp only [Act.put, List.setIfInBounds_toArray, List.set_cons_zero, List.set_cons_succ, i64_w, i32_w]
            rfl
          refine pure_ (i := 3) (N := (some 25)) (v := ?_) (a' := ?_) #[true, true, true, true, false, false, false, false, false, false, false, false, false, false, false, false, false, false] rfl rfl (by kernel_rfl) (fun _ _ _ h => h) (Or.inl ⟨by rfl, ?_⟩) ?_ ?_
          rotate_left
          · intro w'
            go_simp
            with_reducible rfl
          rotate_left
          · simp only [Act.put, List.setIfInBounds_toArray, List.set_cons_zero, List.set_cons_succ, i64_w, i32_w]
            rfl
          refine pure_ (i := 4) (N := (some 26)) (v := undef) (a' := ?_) #[true, true, true, true, true, false, false, false, false, false, false, false, false, false, false, false, false, false] rfl rfl (by kernel_rfl) (fun _ _ _ h => h) (Or.inr ⟨by rfl, rfl⟩) ?_ ?_
          rotate_left
          · simp only [Act.put, List.setIfInBounds_toArray, List.set_cons_zero, List.set_cons_succ, i64_w, i32_w]
            rfl
          refine pure_ (i := 5) (N := (some 27)) (v := undef) (a' := ?_) #[true, true, true, true, true, true, false, false, false, false, false, false, false, false, false, false, false, false] rfl rfl (by kernel_rfl) (fun _ _ _ h => h) (Or.inr ⟨by rfl, rfl⟩) ?_ ?_
          rotate_left
          · simp only [Act.put, List.setIfInBounds_toArray, List.set_cons_zero, List.set_cons_succ, i64_w, i32_w]
            rfl
          refine pure_ (i := 6) (N := (some 28)) (v := undef) (a' := ?_) #[true, true, true, true, true, true, true, false, false, false, false, false, false, false, false, false, false, false] rfl rfl (by kernel_rfl) (fun _ _ _ h => h) (Or.inr ⟨by rfl, rfl⟩) ?_ ?_
          rotate_left
          · simp only [Act.put, List.setIfInBounds_toArray, List.set_cons_zero, List.set_cons_succ, i64_w, i32_w]
            rfl
          refine pure_ (i := 7) (N := (some 29)) (v := undef) (a' := ?_) #[true, true, true, true, true, true, true, true, false, false, false, false, false, false, false, false, false, false] rfl rfl (by kernel_rfl) (fun _ _ _ h => h) (Or.inr ⟨by rfl, rfl⟩) ?_ ?_
          rotate_left
          · simp only [Act.put, List.setIfInBounds_toArray, List.set_cons_zero, List.set_cons_succ, i64_w, i32_w]
            rfl
          refine pure_ (i := 8) (N := (some 30)) (v := undef) (a' := ?_) #[true, true, true, true, true, true, true, true, true, false, false, false, false, false, false, false, false, false] rfl rfl (by kernel_rfl) (fun _ _ _ h => h) (Or.inr ⟨by rfl, rfl⟩) ?_ ?_
          rotate_left
          · simp only [Act.put, List.setIfInBounds_toArray, List.set_cons_zero, List.set_cons_succ, i64_w, i32_w]
            rfl
          refine pure_ (i := 9) (N := (some 31)) (v := undef) (a' := ?_) #[true, true, true, true, true, true, true, true, true, true, false, false, false, false, false, false, false, false] rfl rfl (by kernel_rfl) (fun _ _ _ h => h) (Or.inr ⟨by rfl, rfl⟩) ?_ ?_
          rotate_left
          · simp only [Act.put, List.setIfInBounds_toArray, List.set_cons_zero, List.set_cons_succ, i64_w, i32_w]
            rfl
          refine pure_ (i := 10) (N := (some 32)) (v := undef) (a' := ?_) #[true, true, true, true, true, true, true, true, true, true, true, false, false, false, false, false, false, false] rfl rfl (by kernel_rfl) (fun _ _ _ h => h) (Or.inr ⟨by rfl, rfl⟩) ?_ ?_
          rotate_left
          · simp only [Act.put, List.setIfInBounds_toArray, List.set_cons_zero, List.set_cons_succ, i64_w, i32_w]
            rfl
          refine pure_ (i := 11) (N := (some 33)) (v := undef) (a' := ?_) #[true, true, true, true, true, true, true, true, true, true, true, true, false, false, false, false, false, false] rfl rfl (by kernel_rfl) (fun _ _ _ h => h) (Or.inr ⟨by rfl, rfl⟩) ?_ ?_
          rotate_left
          · simp only [Act.put, List.setIfInBounds_toArray, List.set_cons_zero, List.set_cons_succ, i64_w, i32_w]
            rfl
          refine pure_ (i := 12) (N := (some 34)) (v := undef) (a' := ?_) #[true, true, true, true, true, true, true, true, true, true, true, true, true, false, false, false, false, false] rfl rfl (by kernel_rfl) (fun _ _ _ h => h) (Or.inr ⟨by rfl, rfl⟩) ?_ ?_
          rotate_left
          · simp only [Act.put, List.setIfInBounds_toArray, List.set_cons_zero, List.set_cons_succ, i64_w, i32_w]
            rfl
          refine pure_ (i := 13) (N := (some 35)) (v := undef) (a' := ?_) #[true, true, true, true, true, true, true, true, true, true, true, true, true, true, false, false, false, false] rfl rfl (by kernel_rfl) (fun _ _ _ h => h) (Or.inr ⟨by rfl, rfl⟩) ?_ ?_
          rotate_left
          · simp only [Act.put, List.setIfInBounds_toArray, List.set_cons_zero, List.set_cons_succ, i64_w, i32_w]
            rfl
          refine pure_ (i := 14) (N := (some 36)) (v := undef) (a' := ?_) #[true, true, true, true, true, true, true, true, true, true, true, true, true, true, true, false, false, false] rfl rfl (by kernel_rfl) (fun _ _ _ h => h) (Or.inr ⟨by rfl, rfl⟩) ?_ ?_
          rotate_left
          · simp only [Act.put, List.setIfInBounds_toArray, List.set_cons_zero, List.set_cons_succ, i64_w, i32_w]
            rfl
          refine pure_ (i := 15) (N := (some 37)) (v := undef) (a' := ?_) #[true, true, true, true, true, true, true, true, true, true, true, true, true, true, true, true, false, false] rfl rfl (by kernel_rfl) (fun _ _ _ h => h) (Or.inr ⟨by rfl, rfl⟩) ?_ ?_
          rotate_left
          · simp only [Act.put, List.setIfInBounds_toArray, List.set_cons_zero, List.set_cons_succ, i64_w, i32_w]
            rfl
          refine pure_ (i := 16) (N := (some 38)) (v := undef) (a' := ?_) #[true, true, true, true, true, true, true, true, true, true, true, true, true, true, true, true, true, false] rfl rfl (by kernel_rfl) (fun _ _ _ h => h) (Or.inr ⟨by rfl, rfl⟩) ?_ ?_
          rotate_left
          · simp only [Act.put, List.setIfInBounds_toArray, List.set_cons_zero, List.set_cons_succ, i64_w, i32_w]
            rfl
          refine pure_ (i := 17) (N := (some 39)) (v := ?_) (a' := ?_) #[true, true, true, true, true, true, true, true, true, true, true, true, true, true, true, true, true, true] rfl rfl (by kernel_rfl) (fun _ _ _ h => h) (Or.inl ⟨by rfl, ?_⟩) ?_ ?_
          rotate_left
          · intro w'
            go_simp
            with_reducible rfl
          rotate_left
          · simp only [Act.put, List.setIfInBounds_toArray, List.set_cons_zero, List.set_cons_succ, i64_w, i32_w]
            rfl
          refine done_ (by kernel_rfl) ?_
          go_wp2_with fail
          go_ret
          exact ⟨by rw [HV.out]; rfl, below_step HB.out hHeld.2⟩
        | true =>
          have HF := Lib.hid (formed_b hf)
          have HFF := Lib.hid hf
          clear hf
          by_cases hk0 : k = 0
          · have hz : decide (0 < k) = false := decide_eq_false (by omega)
            have HLL := Lib.hid (show lastLe (l0.take k) o = true from by rw [← HO.out, lastLe_at hlt]; exact decide_eq_true (fun h => by omega))
            clear hk0
            go_wp2_with fail
            refine start_ (n := 18) (S := fun W => W.heap[wr.heap.size]? = some (.cells #[.int .i64 o.f0, .string o.f1, .string o.f2, .int .i64 o.f3, .int .i64 o.f4, .int .i64 o.f5, .int .i64 o.f6, .bool o.f7] 24 (0, 0)) ∧ Below wr.heap.size wr W) (ds := []) #[false, false, false, false, false, false, false, false, false, false, false, false, false, false, false, false, false, false] (by kernel_rfl) rfl rfl ⟨blk_drew (World.alloc_heap_new _ _), below_drew1 (below_alloc (Below.refl _ _) _)⟩ (fun hHeld => ?_)
            refine take_ (i := 0) (N := (some 22)) (v := ?_) (a' := ?_) #[true, false, false, false, false, false, false, false, false, false, false, false, false, false, false, false, false, false] rfl rfl (by kernel_rfl) (fun _ _ _ h => h) (Or.inl ⟨by rfl, ?_⟩) hHeld ?_ ?_
            rotate_left
            · rintro w' ⟨s, -⟩
              obtain ⟨c0, c1, c2, c3, c4, c5, c6, c7⟩ := od_blk s
              clear s
              go_simp
              with_reducible rfl
            rotate_left
            · simp only [Act.put, List.setIfInBounds_toArray, List.set_cons_zero, List.set_cons_succ, i64_w, i32_w]
              rfl
            refine one_ (i := 1) (N := (some 23)) #[true, true, false, false, false, false, false, false, false, false, false, false, false, false, false, false, false, false] rfl rfl (by kernel_rfl) (by decide) (fun K hK => ?_)
            refine goes_ Try.func20 (by kernel_rfl) rfl #[odV o] (by rfl) rfl rfl (by (try simp only [List.map_toArray, List.map_cons, List.map_nil]); first | done | rfl) ?_
            with_reducible refine (HF.out _).mono ?_
            rintro e w' ⟨rfl, hb⟩
            refine ⟨_, rfl, ?_⟩
            refine hK.out _ _ ⟨blk_below hHeld.1 hb, below_step hHeld.2 hb⟩ (fun hHeld => ?_)
            clear hK K
            clear hb
            refine norm_ (a' := ?_) ?_ ?_
            rotate_left
            · show Act.put _ (some 23) _ = _
              simp only [Act.put, List.setIfInBounds_toArray, List.set_cons_zero, List.set_cons_succ, i64_w, i32_w]
              rfl
            refine pure_ (i := 2) (N := (some 24)) (v := ?_) (a' := ?_) #[true, true, true, false, false, false, false, false, false, false, false, false, false, false, false, false, false, false] rfl rfl (by kernel_rfl) (fun _ _ _ h => h) (Or.inl ⟨by rfl, ?_⟩) ?_ ?_
            rotate_left
            · intro w'
              go_simp
              with_reducible rfl
            rotate_left
            · simp only [Act.put, List.setIfInBounds_toArray, List.set_cons_zero, List.set_cons_succ, i64_w, i32_w]
              rfl
            refine pure_ (i := 3) (N := (some 25)) (v := ?_) (a' := ?_) #[true, true, true, true, false, false, false, false, false, false, false, false, false, false, false, false, false, false] rfl rfl (by kernel_rfl) (fun _ _ _ h => h) (Or.inl ⟨by rfl, ?_⟩) ?_ ?_
            rotate_left
            · intro w'
              go_simp
              with_reducible rfl
            rotate_left
            · simp only [Act.put, List.setIfInBounds_toArray, List.set_cons_zero, List.set_cons_succ, i64_w, i32_w]
              rfl
            refine pure_ (i := 4) (N := (some 26)) (v := ?_) (a' := ?_) #[true, true, true, true, true, false, false, false, false, false, false, false, false, false, false, false, false, false] rfl rfl (by kernel_rfl) (fun _ _ _ h => h) (Or.inl ⟨by rfl, ?_⟩) ?_ ?_
            rotate_left
            · intro w'
              go_simp
              with_reducible rfl
            rotate_left
            · simp only [Act.put, List.setIfInBounds_toArray, List.set_cons_zero, List.set_cons_succ, i64_w, i32_w]
              rfl
            refine pure_ (i := 5) (N := (some 27)) (v := ?_) (a' := ?_) #[true, true, true, true, true, true, false, false, false, false, false, false, false, false, false, false, false, false] rfl rfl (by kernel_rfl) (fun _ _ _ h => h) (Or.inl ⟨by rfl, ?_⟩) ?_ ?_
            rotate_left
            · intro w'
              go_simp
              with_reducible rfl
            rotate_left
            · simp only [Act.put, List.setIfInBounds_toArray, List.set_cons_zero, List.set_cons_succ, i64_w, i32_w]
              rfl
            refine pure_ (i := 6) (N := (some 28)) (v := ?_) (a' := ?_) #[true, true, true, true, true, true, true, false, false, false, false, false, false, false, false, false, false, false] rfl rfl (by kernel_rfl) (fun _ _ _ h => h) (Or.inl ⟨by rfl, ?_⟩) ?_ ?_
            rotate_left
            · intro w'
              go_simp
              with_reducible rfl
            rotate_left
            · simp only [Act.put, List.setIfInBounds_toArray, List.set_cons_zero, List.set_cons_succ, i64_w, i32_w]
              rfl
            refine pure_ (i := 7) (N := (some 29)) (v := undef) (a' := ?_) #[true, true, true, true, true, true, true, true, false, false, false, false, false, false, false, false, false, false] rfl rfl (by kernel_rfl) (fun _ _ _ h => h) (Or.inr ⟨by rfl, rfl⟩) ?_ ?_
            rotate_left
            · simp only [Act.put, List.setIfInBounds_toArray, List.set_cons_zero, List.set_cons_succ, i64_w, i32_w]
              rfl
            refine pure_ (i := 8) (N := (some 30)) (v := undef) (a' := ?_) #[true, true, true, true, true, true, true, true, true, false, false, false, false, false, false, false, false, false] rfl rfl (by kernel_rfl) (fun _ _ _ h => h) (Or.inr ⟨by rfl, rfl⟩) ?_ ?_
            rotate_left
            · simp only [Act.put, List.setIfInBounds_toArray, List.set_cons_zero, List.set_cons_succ, i64_w, i32_w]
              rfl
            refine pure_ (i := 9) (N := (some 31)) (v := undef) (a' := ?_) #[true, true, true, true, true, true, true, true, true, true, false, false, false, false, false, false, false, false] rfl rfl (by kernel_rfl) (fun _ _ _ h => h) (Or.inr ⟨by rfl, rfl⟩) ?_ ?_
            rotate_left
            · simp only [Act.put, List.setIfInBounds_toArray, List.set_cons_zero, List.set_cons_succ, i64_w, i32_w]
              rfl
            refine pure_ (i := 10) (N := (some 32)) (v := undef) (a' := ?_) #[true, true, true, true, true, true, true, true, true, true, true, false, false, false, false, false, false, false] rfl rfl (by kernel_rfl) (fun _ _ _ h => h) (Or.inr ⟨by rfl, rfl⟩) ?_ ?_
            rotate_left
            · simp only [Act.put, List.setIfInBounds_toArray, List.set_cons_zero, List.set_cons_succ, i64_w, i32_w]
              rfl
            refine pure_ (i := 11) (N := (some 33)) (v := undef) (a' := ?_) #[true, true, true, true, true, true, true, true, true, true, true, true, false, false, false, false, false, false] rfl rfl (by kernel_rfl) (fun _ _ _ h => h) (Or.inr ⟨by rfl, rfl⟩) ?_ ?_
            rotate_left
            · simp only [Act.put, List.setIfInBounds_toArray, List.set_cons_zero, List.set_cons_succ, i64_w, i32_w]
              rfl
            refine pure_ (i := 12) (N := (some 34)) (v := undef) (a' := ?_) #[true, true, true, true, true, true, true, true, true, true, true, true, true, false, false, false, false, false] rfl rfl (by kernel_rfl) (fun _ _ _ h => h) (Or.inr ⟨by rfl, rfl⟩) ?_ ?_
            rotate_left
            · simp only [Act.put, List.setIfInBounds_toArray, List.set_cons_zero, List.set_cons_succ, i64_w, i32_w]
              rfl
            refine pure_ (i := 13) (N := (some 35)) (v := undef) (a' := ?_) #[true, true, true, true, true, true, true, true, true, true, true, true, true, true, false, false, false, false] rfl rfl (by kernel_rfl) (fun _ _ _ h => h) (Or.inr ⟨by rfl, rfl⟩) ?_ ?_
            rotate_left
            · simp only [Act.put, List.setIfInBounds_toArray, List.set_cons_zero, List.set_cons_succ, i64_w, i32_w]
              rfl
            refine pure_ (i := 14) (N := (some 36)) (v := undef) (a' := ?_) #[true, true, true, true, true, true, true, true, true, true, true, true, true, true, true, false, false, false] rfl rfl (by kernel_rfl) (fun _ _ _ h => h) (Or.inr ⟨by rfl, rfl⟩) ?_ ?_
            rotate_left
            · simp only [Act.put, List.setIfInBounds_toArray, List.set_cons_zero, List.set_cons_succ, i64_w, i32_w]
              rfl
            refine pure_ (i := 15) (N := (some 37)) (v := undef) (a' := ?_) #[true, true, true, true, true, true, true, true, true, true, true, true, true, true, true, true, false, false] rfl rfl (by kernel_rfl) (fun _ _ _ h => h) (Or.inr ⟨by rfl, rfl⟩) ?_ ?_
            rotate_left
            · simp only [Act.put, List.setIfInBounds_toArray, List.set_cons_zero, List.set_cons_succ, i64_w, i32_w]
              rfl
            refine pure_ (i := 16) (N := (some 38)) (v := ?_) (a' := ?_) #[true, true, true, true, true, true, true, true, true, true, true, true, true, true, true, true, true, false] rfl rfl (by kernel_rfl) (fun _ _ _ h => h) (Or.inl ⟨by rfl, ?_⟩) ?_ ?_
            rotate_left
            · intro w'
              go_simp
              with_reducible rfl
            rotate_left
            · simp only [Act.put, List.setIfInBounds_toArray, List.set_cons_zero, List.set_cons_succ, i64_w, i32_w]
              rfl
            refine pure_ (i := 17) (N := (some 39)) (v := ?_) (a' := ?_) #[true, true, true, true, true, true, true, true, true, true, true, true, true, true, true, true, true, true] rfl rfl (by kernel_rfl) (fun _ _ _ h => h) (Or.inl ⟨by rfl, ?_⟩) ?_ ?_
            rotate_left
            · intro w'
              go_simp
              with_reducible rfl
            rotate_left
            · simp only [Act.put, List.setIfInBounds_toArray, List.set_cons_zero, List.set_cons_succ, i64_w, i32_w]
              rfl
            refine done_ (by kernel_rfl) ?_
            have HS := Lib.hid hHeld
            clear hHeld
            obtain ⟨s, sb⟩ := HS.out
            obtain ⟨v0, v1, v2, v3, v4, v5, v6, v7⟩ := od_blk s
            have hsz := (Array.getElem?_eq_some_iff.1 s).1
            clear s sb
            obtain ⟨hva, ⟨g1, hm1, hg1⟩, ⟨g2, hm2, hg2⟩, hbw⟩ := HI.out
            have hff := FOk.of HFF.out
            have hn1 := hg1 o.f0
            have hn2 := hg2 o.f1
            have h16 := few_of hva o.f1
            have HWR := hm2.lt
            have HM1 := Lib.hid (hm1.below HS.out.2 hm1.lt)
            have HM2 := Lib.hid (hm2.below HS.out.2 hm2.lt)
            have HG := Lib.hid (And.intro hg1 (And.intro hg2 hva))
            have okn : okI o.f0 := WalkArith.wf_i64 (by have := hff.f0; omega)
            have okp : okS o.f1 := by have := hff.f1; show _ ≤ maxLen; unfold maxLen; omega
            have HOK := Lib.hid (And.intro okn okp)
            have hkm : k < maxLen ∧ k + 1 < maxLen := by unfold maxLen; omega
            have HKM := Lib.hid hkm
            generalize hN : nums o.f1 [] (l0.take k) = nn at *
            have HN := Lib.hid hN
            have HN2 := Lib.hid hn2
            have HBB := Lib.hid (below_step HB.out HS.out.2)
            clear hva hm1 hg1 hm2 hg2 hbw hff okn okp hN hn2 hkm
            rcases hn1 with ⟨x, hx, hxn, hgx⟩ | ⟨hne, hgx⟩
            · have HX := Lib.hid (And.intro hx hxn)
              have HGX := Lib.hid hgx
              have h17 : ¬ (16 : Int) < (nn : Int) := by omega
              clear hx hxn hgx
              by_cases hsame : x.f1 = o.f1 ∧ x.f2 = o.f2
              · have HSA := Lib.hid hsame
                clear hsame
                go_wp2_with (first
                  | (at_lookup; refine wpList_lookokT keyI rfl _ _ 45 48 rfl Try.underlying45 _ zeroP w.heap.size k g1 o.f0 (pa o.f1 o.f2) true rfl rfl (HM1.out.alloc _) HOK.out.1 (by rw [HGX.out, HSA.out.1, HSA.out.2]; rfl) (by rw [HGX.out]; rfl) ?_)
                  | (at_lookup; refine wpList_lookT keyS rfl _ _ 46 3 rfl Try.underlying46 _ zeroI (w.heap.size + 1) k g2 o.f1 (.int .i64 nn) rfl rfl ((HM2.out.alloc _).alloc _) HOK.out.2 HN2.out ?_)
                  | go_in)
                go_roundw
                case rel =>
                  refine ⟨k + 1, by omega, by go_num, validFrom_next hlt HG.out.2.2 (by rw [HO.out]; exact okNext_old HG.out.2.2 HFF.out HLL.out HX.out.1 HX.out.2 HSA.out), ⟨g1, ((HM1.out.alloc _).alloc _).mono (by omega), ?_⟩, ⟨g2, ((HM2.out.alloc _).alloc _).mono (by omega), ?_⟩, below_alloc (below_alloc HBB.out _) _⟩
                  · rw [take_odAt hlt, HO.out]
                    exact HG.out.1.keep HX.out.1 HX.out.2
                  · rw [take_odAt hlt, HO.out]
                    exact HG.out.2.1.keep (newIn_false HX.out.1 HX.out.2)
                case measure => simp [intOf]; omega
              · have HV := Lib.hid (valid_stop hlt (by rw [HO.out]; exact okNext_diff HX.out.1 HX.out.2 hsame))
                by_cases h1 : x.f1 = o.f1
                · have ne : ¬ x.f2.toList = o.f2.toList := fun h => hsame ⟨h1, str_eq.1 h⟩
                  have H1 := Lib.hid h1
                  clear hsame h1
                  go_wp2_with (first
                    | (at_lookup; refine wpList_lookokT keyI rfl _ _ 45 48 rfl Try.underlying45 _ zeroP w.heap.size k g1 o.f0 (pa o.f1 x.f2) true rfl rfl (HM1.out.alloc _) HOK.out.1 (by rw [HGX.out, H1.out]; rfl) (by rw [HGX.out]; rfl) ?_)
                    | go_in)
                  go_ret
                  exact ⟨by rw [HV.out]; rfl, below_alloc (below_alloc HBB.out _) _⟩
                · have ne : ¬ x.f1.toList = o.f1.toList := fun h => h1 (str_eq.1 h)
                  clear hsame h1
                  go_wp2_with (first
                    | (at_lookup; refine wpList_lookokT keyI rfl _ _ 45 48 rfl Try.underlying45 _ zeroP w.heap.size k g1 o.f0 (pa x.f1 x.f2) true rfl rfl (HM1.out.alloc _) HOK.out.1 (by rw [HGX.out]; rfl) (by rw [HGX.out]; rfl) ?_)
                    | go_in)
                  go_ret
                  exact ⟨by rw [HV.out]; rfl, below_alloc (below_alloc HBB.out _) _⟩
            · have HNE := Lib.hid hne
              have HGX := Lib.hid hgx
              have HNX := Lib.hid (newIn_iff.2 hne)
              clear hne hgx
              by_cases h17 : nn + 1 ≤ 16
              · have h18 : ¬ (16 : Int) < (nn : Int) + 1 := by omega
                go_wp2_with (first
                  | (at_lookup; refine wpList_lookokT keyI rfl _ _ 45 48 rfl Try.underlying45 _ zeroP w.heap.size k g1 o.f0 (.agg #[.string ⟨#[]⟩, .string ⟨#[]⟩]) false rfl rfl (HM1.out.alloc _) HOK.out.1 (by rw [HGX.out]; rfl) (by rw [HGX.out]; rfl) ?_)
                  | (at_mapUpdate; refine wpList_storeT keyI rfl _ _ _ 45 48 rfl Try.underlying45 w.heap.size k g1 o.f0 (pa o.f1 o.f2) rfl rfl rfl ((HM1.out.alloc _).alloc _) HKM.out.1 HOK.out.1 ?_; intro w1 m1 k1; have y1 := k1.cell (a := ⟨wr.heap.size, 1, none⟩) (show ¬ wr.heap.size = w.heap.size by omega) (pw_cell_below (below_alloc (below_alloc (Below.refl _ _) _) _) v1); have HW1 := Lib.hid (And.intro m1 (And.intro (((HM2.out.alloc _).alloc _).kb k1 (show ¬ w.heap.size + 1 = w.heap.size by omega)) (Below.trans (below_alloc (below_alloc HBB.out _) _) (k1.below (B := w.heap.size) (by simp; omega) (fun k h => by have h2 : k = w.heap.size := h; omega))))); clear m1 k1)
                  | (at_lookup; refine wpList_lookT keyS rfl _ _ 46 3 rfl Try.underlying46 _ zeroI (w.heap.size + 1) (k + 1) (putT g2 o.f1 (.int .i64 ((nn : Int) + 1))) o.f1 (.int .i64 ((nn : Int) + 1)) rfl rfl HW2.out.1 HOK.out.2 (by rw [putT_same]; rfl) ?_)
                  | (at_lookup; refine wpList_lookT keyS rfl _ _ 46 3 rfl Try.underlying46 _ zeroI (w.heap.size + 1) k g2 o.f1 (.int .i64 nn) rfl rfl HW1.out.2.1 HOK.out.2 HN2.out ?_)
                  | (at_mapUpdate; refine wpList_storeT keyS rfl _ _ _ 46 3 rfl Try.underlying46 (w.heap.size + 1) k g2 o.f1 (.int .i64 ((nn : Int) + 1)) rfl rfl rfl HW1.out.2.1 HKM.out.1 HOK.out.2 ?_; intro w2 m2 k2; have z1 := k2.cell (a := ⟨wr.heap.size, 1, none⟩) (show ¬ wr.heap.size = w.heap.size + 1 by omega) y1; have HW2 := Lib.hid (And.intro m2 (And.intro (HW1.out.1.kb k2 (show ¬ w.heap.size = w.heap.size + 1 by omega)) (Below.trans HW1.out.2.2 (k2.below (B := w.heap.size) HW1.out.2.2.size (fun k h => by have h2 : k = w.heap.size + 1 := h; omega))))); clear m2 k2)
                  | go_in)
                go_roundw
                case rel =>
                  refine ⟨k + 1, by omega, by go_num, validFrom_next hlt HG.out.2.2 (by rw [HO.out, okNext_new HFF.out HLL.out HNE.out, HN.out]; exact decide_eq_true h17), ⟨_, HW2.out.2.1, ?_⟩, ⟨_, HW2.out.1, ?_⟩, HW2.out.2.2⟩
                  · rw [take_odAt hlt, HO.out]
                    exact HG.out.1.put
                  · rw [take_odAt hlt, HO.out, ← HN.out]
                    exact HG.out.2.1.put HNX.out
                case measure => simp [intOf]; omega
              · have h18 : (16 : Int) < (nn : Int) + 1 := by omega
                have HV := Lib.hid (valid_stop hlt (by rw [HO.out, okNext_new HFF.out HLL.out HNE.out, HN.out]; exact decide_eq_false h17))
                go_wp2_with (first
                  | (at_lookup; refine wpList_lookokT keyI rfl _ _ 45 48 rfl Try.underlying45 _ zeroP w.heap.size k g1 o.f0 (.agg #[.string ⟨#[]⟩, .string ⟨#[]⟩]) false rfl rfl (HM1.out.alloc _) HOK.out.1 (by rw [HGX.out]; rfl) (by rw [HGX.out]; rfl) ?_)
                  | (at_mapUpdate; refine wpList_storeT keyI rfl _ _ _ 45 48 rfl Try.underlying45 w.heap.size k g1 o.f0 (pa o.f1 o.f2) rfl rfl rfl ((HM1.out.alloc _).alloc _) HKM.out.1 HOK.out.1 ?_; intro w1 m1 k1; have y1 := k1.cell (a := ⟨wr.heap.size, 1, none⟩) (show ¬ wr.heap.size = w.heap.size by omega) (pw_cell_below (below_alloc (below_alloc (Below.refl _ _) _) _) v1); have HW1 := Lib.hid (And.intro m1 (And.intro (((HM2.out.alloc _).alloc _).kb k1 (show ¬ w.heap.size + 1 = w.heap.size by omega)) (Below.trans (below_alloc (below_alloc HBB.out _) _) (k1.below (B := w.heap.size) (by simp; omega) (fun k h => by have h2 : k = w.heap.size := h; omega))))); clear m1 k1)
                  | (at_lookup; refine wpList_lookT keyS rfl _ _ 46 3 rfl Try.underlying46 _ zeroI (w.heap.size + 1) (k + 1) (putT g2 o.f1 (.int .i64 ((nn : Int) + 1))) o.f1 (.int .i64 ((nn : Int) + 1)) rfl rfl HW2.out.1 HOK.out.2 (by rw [putT_same]; rfl) ?_)
                  | (at_lookup; refine wpList_lookT keyS rfl _ _ 46 3 rfl Try.underlying46 _ zeroI (w.heap.size + 1) k g2 o.f1 (.int .i64 nn) rfl rfl HW1.out.2.1 HOK.out.2 HN2.out ?_)
                  | (at_mapUpdate; refine wpList_storeT keyS rfl _ _ _ 46 3 rfl Try.underlying46 (w.heap.size + 1) k g2 o.f1 (.int .i64 ((nn : Int) + 1)) rfl rfl rfl HW1.out.2.1 HKM.out.1 HOK.out.2 ?_; intro w2 m2 k2; have z1 := k2.cell (a := ⟨wr.heap.size, 1, none⟩) (show ¬ wr.heap.size = w.heap.size + 1 by omega) y1; have HW2 := Lib.hid (And.intro m2 (And.intro (HW1.out.1.kb k2 (show ¬ w.heap.size = w.heap.size + 1 by omega)) (Below.trans HW1.out.2.2 (k2.below (B := w.heap.size) HW1.out.2.2.size (fun k h => by have h2 : k = w.heap.size + 1 := h; omega))))); clear m2 k2)
                  | go_in)
                go_ret
                exact ⟨by rw [HV.out]; rfl, HW2.out.2.2⟩
          · have hz : decide (0 < k) = true := decide_eq_true (by omega)
            have hk1 : k - 1 < l0.length := by omega
            obtain ⟨ad', ead, q0, q1, q2, q3, q4, q5, q6, q7⟩ := od_cells (Kd.C_below HC.out HB.out) hk1
            cases ead
            generalize hp : odAt l0 (k - 1) = p at *
            have HP := Lib.hid hp
            have z1 : (0 : Int) ≤ (k : Int) - 1 := by omega
            have z2 : (k : Int) - 1 < (l0.length : Int) := by omega
            have z6 : (1 : Int) ≤ (k : Int) := by omega
            have z3 : ((k : Int) - 1).toNat = k - 1 := by omega
            have z4 : IntKind.i64.wrap ((k : Int) - 1) = (k : Int) - 1 := IntWalk.i64_in _ (by omega)
            clear hp q0 q1 q2 q3 q5 q6 q7 hk1
            by_cases hle : p.f4 ≤ o.f4
            · have HLL := Lib.hid (show lastLe (l0.take k) o = true from by rw [← HO.out, lastLe_at hlt]; exact decide_eq_true (fun h => by rw [HP.out, HO.out]; exact hle))
              have z5 : decide (o.f4 < p.f4) = false := decide_eq_false (by omega)
              clear hle hk0
              go_wp2_with fail
              refine start_ (n := 18) (S := fun W => W.heap[wr.heap.size]? = some (.cells #[.int .i64 o.f0, .string o.f1, .string o.f2, .int .i64 o.f3, .int .i64 o.f4, .int .i64 o.f5, .int .i64 o.f6, .bool o.f7] 24 (0, 0)) ∧ Below wr.heap.size wr W) (ds := []) #[false, false, false, false, false, false, false, false, false, false, false, false, false, false, false, false, false, false] (by kernel_rfl) rfl rfl ⟨blk_drew (World.alloc_heap_new _ _), below_drew1 (below_alloc (Below.refl _ _) _)⟩ (fun hHeld => ?_)
              refine take_ (i := 0) (N := (some 22)) (v := ?_) (a' := ?_) #[true, false, false, false, false, false, false, false, false, false, false, false, false, false, false, false, false, false] rfl rfl (by kernel_rfl) (fun _ _ _ h => h) (Or.inl ⟨by rfl, ?_⟩) hHeld ?_ ?_
              rotate_left
              · rintro w' ⟨s, sb⟩
                obtain ⟨c0, c1, c2, c3, c4, c5, c6, c7⟩ := od_blk s
                have b4 := pw_cell_below sb q4
                clear s sb
                go_simp
                with_reducible rfl
              rotate_left
              · simp only [Act.put, List.setIfInBounds_toArray, List.set_cons_zero, List.set_cons_succ, i64_w, i32_w]
                rfl
              refine one_ (i := 1) (N := (some 23)) #[true, true, false, false, false, false, false, false, false, false, false, false, false, false, false, false, false, false] rfl rfl (by kernel_rfl) (by decide) (fun K hK => ?_)
              refine goes_ Try.func20 (by kernel_rfl) rfl #[odV o] (by rfl) rfl rfl (by (try simp only [List.map_toArray, List.map_cons, List.map_nil]); first | done | rfl) ?_
              with_reducible refine (HF.out _).mono ?_
              rintro e w' ⟨rfl, hb⟩
              refine ⟨_, rfl, ?_⟩
              refine hK.out _ _ ⟨blk_below hHeld.1 hb, below_step hHeld.2 hb⟩ (fun hHeld => ?_)
              clear hK K
              clear hb
              refine norm_ (a' := ?_) ?_ ?_
              rotate_left
              · show Act.put _ (some 23) _ = _
                simp only [Act.put, List.setIfInBounds_toArray, List.set_cons_zero, List.set_cons_succ, i64_w, i32_w]
                rfl
              refine pure_ (i := 2) (N := (some 24)) (v := ?_) (a' := ?_) #[true, true, true, false, false, false, false, false, false, false, false, false, false, false, false, false, false, false] rfl rfl (by kernel_rfl) (fun _ _ _ h => h) (Or.inl ⟨by rfl, ?_⟩) ?_ ?_
              rotate_left
              · intro w'
                go_simp
                with_reducible rfl
              rotate_left
              · simp only [Act.put, List.setIfInBounds_toArray, List.set_cons_zero, List.set_cons_succ, i64_w, i32_w]
                rfl
              refine pure_ (i := 3) (N := (some 25)) (v := ?_) (a' := ?_) #[true, true, true, true, false, false, false, false, false, false, false, false, false, false, false, false, false, false] rfl rfl (by kernel_rfl) (fun _ _ _ h => h) (Or.inl ⟨by rfl, ?_⟩) ?_ ?_
              rotate_left
              · intro w'
                go_simp
                with_reducible rfl
              rotate_left
              · simp only [Act.put, List.setIfInBounds_toArray, List.set_cons_zero, List.set_cons_succ, i64_w, i32_w]
                rfl
              refine pure_ (i := 4) (N := (some 26)) (v := ?_) (a' := ?_) #[true, true, true, true, true, false, false, false, false, false, false, false, false, false, false, false, false, false] rfl rfl (by kernel_rfl) (fun _ _ _ h => h) (Or.inl ⟨by rfl, ?_⟩) ?_ ?_
              rotate_left
              · intro w'
                go_simp
                with_reducible rfl
              rotate_left
              · simp only [Act.put, List.setIfInBounds_toArray, List.set_cons_zero, List.set_cons_succ, i64_w, i32_w]
                rfl
              refine pure_ (i := 5) (N := (some 27)) (v := ?_) (a' := ?_) #[true, true, true, true, true, true, false, false, false, false, false, false, false, false, false, false, false, false] rfl rfl (by kernel_rfl) (fun _ _ _ h => h) (Or.inl ⟨by rfl, ?_⟩) ?_ ?_
              rotate_left
              · intro w'
                go_simp
                with_reducible rfl
              rotate_left
              · simp only [Act.put, List.setIfInBounds_toArray, List.set_cons_zero, List.set_cons_succ, i64_w, i32_w]
                rfl
              refine pure_ (i := 6) (N := (some 28)) (v := ?_) (a' := ?_) #[true, true, true, true, true, true, true, false, false, false, false, false, false, false, false, false, false, false] rfl rfl (by kernel_rfl) (fun _ _ _ h => h) (Or.inl ⟨by rfl, ?_⟩) ?_ ?_
              rotate_left
              · intro w'
                go_simp
                with_reducible rfl
              rotate_left
              · simp only [Act.put, List.setIfInBounds_toArray, List.set_cons_zero, List.set_cons_succ, i64_w, i32_w]
                rfl
              refine pure_ (i := 7) (N := (some 29)) (v := ?_) (a' := ?_) #[true, true, true, true, true, true, true, true, false, false, false, false, false, false, false, false, false, false] rfl rfl (by kernel_rfl) (fun _ _ _ h => h) (Or.inl ⟨by rfl, ?_⟩) ?_ ?_
              rotate_left
              · intro w'
                go_simp
                with_reducible rfl
              rotate_left
              · simp only [Act.put, List.setIfInBounds_toArray, List.set_cons_zero, List.set_cons_succ, i64_w, i32_w]
                rfl
              refine take_ (i := 8) (N := (some 30)) (v := ?_) (a' := ?_) #[true, true, true, true, true, true, true, true, true, false, false, false, false, false, false, false, false, false] rfl rfl (by kernel_rfl) (fun _ _ _ h => h) (Or.inl ⟨by rfl, ?_⟩) hHeld ?_ ?_
              rotate_left
              · rintro w' ⟨s, sb⟩
                obtain ⟨c0, c1, c2, c3, c4, c5, c6, c7⟩ := od_blk s
                have b4 := pw_cell_below sb q4
                clear s sb
                go_simp
                with_reducible rfl
              rotate_left
              · simp only [Act.put, List.setIfInBounds_toArray, List.set_cons_zero, List.set_cons_succ, i64_w, i32_w]
                rfl
              refine pure_ (i := 9) (N := (some 31)) (v := ?_) (a' := ?_) #[true, true, true, true, true, true, true, true, true, true, false, false, false, false, false, false, false, false] rfl rfl (by kernel_rfl) (fun _ _ _ h => h) (Or.inl ⟨by rfl, ?_⟩) ?_ ?_
              rotate_left
              · intro w'
                go_simp
                with_reducible rfl
              rotate_left
              · simp only [Act.put, List.setIfInBounds_toArray, List.set_cons_zero, List.set_cons_succ, i64_w, i32_w]
                rfl
              refine pure_ (i := 10) (N := (some 32)) (v := ?_) (a' := ?_) #[true, true, true, true, true, true, true, true, true, true, true, false, false, false, false, false, false, false] rfl rfl (by kernel_rfl) (fun _ _ _ h => h) (Or.inl ⟨by rfl, ?_⟩) ?_ ?_
              rotate_left
              · intro w'
                go_simp
                with_reducible rfl
              rotate_left
              · simp only [Act.put, List.setIfInBounds_toArray, List.set_cons_zero, List.set_cons_succ, i64_w, i32_w]
                rfl
              refine pure_ (i := 11) (N := (some 33)) (v := ?_) (a' := ?_) #[true, true, true, true, true, true, true, true, true, true, true, true, false, false, false, false, false, false] rfl rfl (by kernel_rfl) (fun _ _ _ h => h) (Or.inl ⟨by rfl, ?_⟩) ?_ ?_
              rotate_left
              · intro w'
                go_simp
                with_reducible rfl
              rotate_left
              · simp only [Act.put, List.setIfInBounds_toArray, List.set_cons_zero, List.set_cons_succ, i64_w, i32_w]
                rfl
              refine pure_ (i := 12) (N := (some 34)) (v := ?_) (a' := ?_) #[true, true, true, true, true, true, true, true, true, true, true, true, true, false, false, false, false, false] rfl rfl (by kernel_rfl) (fun _ _ _ h => h) (Or.inl ⟨by rfl, ?_⟩) ?_ ?_
              rotate_left
              · intro w'
                go_simp
                with_reducible rfl
              rotate_left
              · simp only [Act.put, List.setIfInBounds_toArray, List.set_cons_zero, List.set_cons_succ, i64_w, i32_w]
                rfl
              refine pure_ (i := 13) (N := (some 35)) (v := ?_) (a' := ?_) #[true, true, true, true, true, true, true, true, true, true, true, true, true, true, false, false, false, false] rfl rfl (by kernel_rfl) (fun _ _ _ h => h) (Or.inl ⟨by rfl, ?_⟩) ?_ ?_
              rotate_left
              · intro w'
                go_simp
                with_reducible rfl
              rotate_left
              · simp only [Act.put, List.setIfInBounds_toArray, List.set_cons_zero, List.set_cons_succ, i64_w, i32_w]
                rfl
              refine take_ (i := 14) (N := (some 36)) (v := ?_) (a' := ?_) #[true, true, true, true, true, true, true, true, true, true, true, true, true, true, true, false, false, false] rfl rfl (by kernel_rfl) (fun _ _ _ h => h) (Or.inl ⟨by rfl, ?_⟩) hHeld ?_ ?_
              rotate_left
              · rintro w' ⟨s, sb⟩
                obtain ⟨c0, c1, c2, c3, c4, c5, c6, c7⟩ := od_blk s
                have b4 := pw_cell_below sb q4
                clear s sb
                go_simp
                with_reducible rfl
              rotate_left
              · simp only [Act.put, List.setIfInBounds_toArray, List.set_cons_zero, List.set_cons_succ, i64_w, i32_w]
                rfl
              refine pure_ (i := 15) (N := (some 37)) (v := ?_) (a' := ?_) #[true, true, true, true, true, true, true, true, true, true, true, true, true, true, true, true, false, false] rfl rfl (by kernel_rfl) (fun _ _ _ h => h) (Or.inl ⟨by rfl, ?_⟩) ?_ ?_
              rotate_left
              · intro w'
                go_simp
                with_reducible rfl
              rotate_left
              · simp only [Act.put, List.setIfInBounds_toArray, List.set_cons_zero, List.set_cons_succ, i64_w, i32_w]
                rfl
              refine pure_ (i := 16) (N := (some 38)) (v := ?_) (a' := ?_) #[true, true, true, true, true, true, true, true, true, true, true, true, true, true, true, true, true, false] rfl rfl (by kernel_rfl) (fun _ _ _ h => h) (Or.inl ⟨by rfl, ?_⟩) ?_ ?_
              rotate_left
              · intro w'
                go_simp
                with_reducible rfl
              rotate_left
              · simp only [Act.put, List.setIfInBounds_toArray, List.set_cons_zero, List.set_cons_succ, i64_w, i32_w]
                rfl
              refine pure_ (i := 17) (N := (some 39)) (v := ?_) (a' := ?_) #[true, true, true, true, true, true, true, true, true, true, true, true, true, true, true, true, true, true] rfl rfl (by kernel_rfl) (fun _ _ _ h => h) (Or.inl ⟨by rfl, ?_⟩) ?_ ?_
              rotate_left
              · intro w'
                go_simp
                with_reducible rfl
              rotate_left
              · simp only [Act.put, List.setIfInBounds_toArray, List.set_cons_zero, List.set_cons_succ, i64_w, i32_w]
                rfl
              refine done_ (by kernel_rfl) ?_
              clear z1 z2 z3 z4 z5 q4
              have HS := Lib.hid hHeld
              clear hHeld
              obtain ⟨s, sb⟩ := HS.out
              obtain ⟨v0, v1, v2, v3, v4, v5, v6, v7⟩ := od_blk s
              have hsz := (Array.getElem?_eq_some_iff.1 s).1
              clear s sb
              obtain ⟨hva, ⟨g1, hm1, hg1⟩, ⟨g2, hm2, hg2⟩, hbw⟩ := HI.out
              have hff := FOk.of HFF.out
              have hn1 := hg1 o.f0
              have hn2 := hg2 o.f1
              have h16 := few_of hva o.f1
              have HWR := hm2.lt
              have HM1 := Lib.hid (hm1.below HS.out.2 hm1.lt)
              have HM2 := Lib.hid (hm2.below HS.out.2 hm2.lt)
              have HG := Lib.hid (And.intro hg1 (And.intro hg2 hva))
              have okn : okI o.f0 := WalkArith.wf_i64 (by have := hff.f0; omega)
              have okp : okS o.f1 := by have := hff.f1; show _ ≤ maxLen; unfold maxLen; omega
              have HOK := Lib.hid (And.intro okn okp)
              have hkm : k < maxLen ∧ k + 1 < maxLen := by unfold maxLen; omega
              have HKM := Lib.hid hkm
              generalize hN : nums o.f1 [] (l0.take k) = nn at *
              have HN := Lib.hid hN
              have HN2 := Lib.hid hn2
              have HBB := Lib.hid (below_step HB.out HS.out.2)
              clear hva hm1 hg1 hm2 hg2 hbw hff okn okp hN hn2 hkm
              rcases hn1 with ⟨x, hx, hxn, hgx⟩ | ⟨hne, hgx⟩
              · have HX := Lib.hid (And.intro hx hxn)
                have HGX := Lib.hid hgx
                have h17 : ¬ (16 : Int) < (nn : Int) := by omega
                clear hx hxn hgx
                by_cases hsame : x.f1 = o.f1 ∧ x.f2 = o.f2
                · have HSA := Lib.hid hsame
                  clear hsame
                  go_wp2_with (first
                    | (at_lookup; refine wpList_lookokT keyI rfl _ _ 45 48 rfl Try.underlying45 _ zeroP w.heap.size k g1 o.f0 (pa o.f1 o.f2) true rfl rfl (HM1.out.alloc _) HOK.out.1 (by rw [HGX.out, HSA.out.1, HSA.out.2]; rfl) (by rw [HGX.out]; rfl) ?_)
                    | (at_lookup; refine wpList_lookT keyS rfl _ _ 46 3 rfl Try.underlying46 _ zeroI (w.heap.size + 1) k g2 o.f1 (.int .i64 nn) rfl rfl ((HM2.out.alloc _).alloc _) HOK.out.2 HN2.out ?_)
                    | go_in)
                  go_roundw
                  case rel =>
                    refine ⟨k + 1, by omega, by go_num, validFrom_next hlt HG.out.2.2 (by rw [HO.out]; exact okNext_old HG.out.2.2 HFF.out HLL.out HX.out.1 HX.out.2 HSA.out), ⟨g1, ((HM1.out.alloc _).alloc _).mono (by omega), ?_⟩, ⟨g2, ((HM2.out.alloc _).alloc _).mono (by omega), ?_⟩, below_alloc (below_alloc HBB.out _) _⟩
                    · rw [take_odAt hlt, HO.out]
                      exact HG.out.1.keep HX.out.1 HX.out.2
                    · rw [take_odAt hlt, HO.out]
                      exact HG.out.2.1.keep (newIn_false HX.out.1 HX.out.2)
                  case measure => simp [intOf]; omega
                · have HV := Lib.hid (valid_stop hlt (by rw [HO.out]; exact okNext_diff HX.out.1 HX.out.2 hsame))
                  by_cases h1 : x.f1 = o.f1
                  · have ne : ¬ x.f2.toList = o.f2.toList := fun h => hsame ⟨h1, str_eq.1 h⟩
                    have H1 := Lib.hid h1
                    clear hsame h1
                    go_wp2_with (first
                      | (at_lookup; refine wpList_lookokT keyI rfl _ _ 45 48 rfl Try.underlying45 _ zeroP w.heap.size k g1 o.f0 (pa o.f1 x.f2) true rfl rfl (HM1.out.alloc _) HOK.out.1 (by rw [HGX.out, H1.out]; rfl) (by rw [HGX.out]; rfl) ?_)
                      | go_in)
                    go_ret
                    exact ⟨by rw [HV.out]; rfl, below_alloc (below_alloc HBB.out _) _⟩
                  · have ne : ¬ x.f1.toList = o.f1.toList := fun h => h1 (str_eq.1 h)
                    clear hsame h1
                    go_wp2_with (first
                      | (at_lookup; refine wpList_lookokT keyI rfl _ _ 45 48 rfl Try.underlying45 _ zeroP w.heap.size k g1 o.f0 (pa x.f1 x.f2) true rfl rfl (HM1.out.alloc _) HOK.out.1 (by rw [HGX.out]; rfl) (by rw [HGX.out]; rfl) ?_)
                      | go_in)
                    go_ret
                    exact ⟨by rw [HV.out]; rfl, below_alloc (below_alloc HBB.out _) _⟩
              · have HNE := Lib.hid hne
                have HGX := Lib.hid hgx
                have HNX := Lib.hid (newIn_iff.2 hne)
                clear hne hgx
                by_cases h17 : nn + 1 ≤ 16
                · have h18 : ¬ (16 : Int) < (nn : Int) + 1 := by omega
                  go_wp2_with (first
                    | (at_lookup; refine wpList_lookokT keyI rfl _ _ 45 48 rfl Try.underlying45 _ zeroP w.heap.size k g1 o.f0 (.agg #[.string ⟨#[]⟩, .string ⟨#[]⟩]) false rfl rfl (HM1.out.alloc _) HOK.out.1 (by rw [HGX.out]; rfl) (by rw [HGX.out]; rfl) ?_)
                    | (at_mapUpdate; refine wpList_storeT keyI rfl _ _ _ 45 48 rfl Try.underlying45 w.heap.size k g1 o.f0 (pa o.f1 o.f2) rfl rfl rfl ((HM1.out.alloc _).alloc _) HKM.out.1 HOK.out.1 ?_; intro w1 m1 k1; have y1 := k1.cell (a := ⟨wr.heap.size, 1, none⟩) (show ¬ wr.heap.size = w.heap.size by omega) (pw_cell_below (below_alloc (below_alloc (Below.refl _ _) _) _) v1); have HW1 := Lib.hid (And.intro m1 (And.intro (((HM2.out.alloc _).alloc _).kb k1 (show ¬ w.heap.size + 1 = w.heap.size by omega)) (Below.trans (below_alloc (below_alloc HBB.out _) _) (k1.below (B := w.heap.size) (by simp; omega) (fun k h => by have h2 : k = w.heap.size := h; omega))))); clear m1 k1)
                    | (at_lookup; refine wpList_lookT keyS rfl _ _ 46 3 rfl Try.underlying46 _ zeroI (w.heap.size + 1) (k + 1) (putT g2 o.f1 (.int .i64 ((nn : Int) + 1))) o.f1 (.int .i64 ((nn : Int) + 1)) rfl rfl HW2.out.1 HOK.out.2 (by rw [putT_same]; rfl) ?_)
                    | (at_lookup; refine wpList_lookT keyS rfl _ _ 46 3 rfl Try.underlying46 _ zeroI (w.heap.size + 1) k g2 o.f1 (.int .i64 nn) rfl rfl HW1.out.2.1 HOK.out.2 HN2.out ?_)
                    | (at_mapUpdate; refine wpList_storeT keyS rfl _ _ _ 46 3 rfl Try.underlying46 (w.heap.size + 1) k g2 o.f1 (.int .i64 ((nn : Int) + 1)) rfl rfl rfl HW1.out.2.1 HKM.out.1 HOK.out.2 ?_; intro w2 m2 k2; have z1 := k2.cell (a := ⟨wr.heap.size, 1, none⟩) (show ¬ wr.heap.size = w.heap.size + 1 by omega) y1; have HW2 := Lib.hid (And.intro m2 (And.intro (HW1.out.1.kb k2 (show ¬ w.heap.size = w.heap.size + 1 by omega)) (Below.trans HW1.out.2.2 (k2.below (B := w.heap.size) HW1.out.2.2.size (fun k h => by have h2 : k = w.heap.size + 1 := h; omega))))); clear m2 k2)
                    | go_in)
                  go_roundw
                  case rel =>
                    refine ⟨k + 1, by omega, by go_num, validFrom_next hlt HG.out.2.2 (by rw [HO.out, okNext_new HFF.out HLL.out HNE.out, HN.out]; exact decide_eq_true h17), ⟨_, HW2.out.2.1, ?_⟩, ⟨_, HW2.out.1, ?_⟩, HW2.out.2.2⟩
                    · rw [take_odAt hlt, HO.out]
                      exact HG.out.1.put
                    · rw [take_odAt hlt, HO.out, ← HN.out]
                      exact HG.out.2.1.put HNX.out
                  case measure => simp [intOf]; omega
                · have h18 : (16 : Int) < (nn : Int) + 1 := by omega
                  have HV := Lib.hid (valid_stop hlt (by rw [HO.out, okNext_new HFF.out HLL.out HNE.out, HN.out]; exact decide_eq_false h17))
                  go_wp2_with (first
                    | (at_lookup; refine wpList_lookokT keyI rfl _ _ 45 48 rfl Try.underlying45 _ zeroP w.heap.size k g1 o.f0 (.agg #[.string ⟨#[]⟩, .string ⟨#[]⟩]) false rfl rfl (HM1.out.alloc _) HOK.out.1 (by rw [HGX.out]; rfl) (by rw [HGX.out]; rfl) ?_)
                    | (at_mapUpdate; refine wpList_storeT keyI rfl _ _ _ 45 48 rfl Try.underlying45 w.heap.size k g1 o.f0 (pa o.f1 o.f2) rfl rfl rfl ((HM1.out.alloc _).alloc _) HKM.out.1 HOK.out.1 ?_; intro w1 m1 k1; have y1 := k1.cell (a := ⟨wr.heap.size, 1, none⟩) (show ¬ wr.heap.size = w.heap.size by omega) (pw_cell_below (below_alloc (below_alloc (Below.refl _ _) _) _) v1); have HW1 := Lib.hid (And.intro m1 (And.intro (((HM2.out.alloc _).alloc _).kb k1 (show ¬ w.heap.size + 1 = w.heap.size by omega)) (Below.trans (below_alloc (below_alloc HBB.out _) _) (k1.below (B := w.heap.size) (by simp; omega) (fun k h => by have h2 : k = w.heap.size := h; omega))))); clear m1 k1)
                    | (at_lookup; refine wpList_lookT keyS rfl _ _ 46 3 rfl Try.underlying46 _ zeroI (w.heap.size + 1) (k + 1) (putT g2 o.f1 (.int .i64 ((nn : Int) + 1))) o.f1 (.int .i64 ((nn : Int) + 1)) rfl rfl HW2.out.1 HOK.out.2 (by rw [putT_same]; rfl) ?_)
                    | (at_lookup; refine wpList_lookT keyS rfl _ _ 46 3 rfl Try.underlying46 _ zeroI (w.heap.size + 1) k g2 o.f1 (.int .i64 nn) rfl rfl HW1.out.2.1 HOK.out.2 HN2.out ?_)
                    | (at_mapUpdate; refine wpList_storeT keyS rfl _ _ _ 46 3 rfl Try.underlying46 (w.heap.size + 1) k g2 o.f1 (.int .i64 ((nn : Int) + 1)) rfl rfl rfl HW1.out.2.1 HKM.out.1 HOK.out.2 ?_; intro w2 m2 k2; have z1 := k2.cell (a := ⟨wr.heap.size, 1, none⟩) (show ¬ wr.heap.size = w.heap.size + 1 by omega) y1; have HW2 := Lib.hid (And.intro m2 (And.intro (HW1.out.1.kb k2 (show ¬ w.heap.size = w.heap.size + 1 by omega)) (Below.trans HW1.out.2.2 (k2.below (B := w.heap.size) HW1.out.2.2.size (fun k h => by have h2 : k = w.heap.size + 1 := h; omega))))); clear m2 k2)
                    | go_in)
                  go_ret
                  exact ⟨by rw [HV.out]; rfl, HW2.out.2.2⟩
            · have HV := Lib.hid (valid_stop hlt (by rw [HO.out]; unfold okNext; rw [show lastLe (l0.take k) o = false from by rw [← HO.out, lastLe_at hlt]; exact decide_eq_false (fun h => by rw [HP.out, HO.out] at h; exact hle (h (by omega)))]; simp))
              have z5 : decide (o.f4 < p.f4) = true := decide_eq_true (by omega)
              clear hle hk0
              go_wp2_with fail
              refine start_ (n := 18) (S := fun W => W.heap[wr.heap.size]? = some (.cells #[.int .i64 o.f0, .string o.f1, .string o.f2, .int .i64 o.f3, .int .i64 o.f4, .int .i64 o.f5, .int .i64 o.f6, .bool o.f7] 24 (0, 0)) ∧ Below wr.heap.size wr W) (ds := []) #[false, false, false, false, false, false, false, false, false, false, false, false, false, false, false, false, false, false] (by kernel_rfl) rfl rfl ⟨blk_drew (World.alloc_heap_new _ _), below_drew1 (below_alloc (Below.refl _ _) _)⟩ (fun hHeld => ?_)
              refine take_ (i := 0) (N := (some 22)) (v := ?_) (a' := ?_) #[true, false, false, false, false, false, false, false, false, false, false, false, false, false, false, false, false, false] rfl rfl (by kernel_rfl) (fun _ _ _ h => h) (Or.inl ⟨by rfl, ?_⟩) hHeld ?_ ?_
              rotate_left
              · rintro w' ⟨s, sb⟩
                obtain ⟨c0, c1, c2, c3, c4, c5, c6, c7⟩ := od_blk s
                have b4 := pw_cell_below sb q4
                clear s sb
                go_simp
                with_reducible rfl
              rotate_left
              · simp only [Act.put, List.setIfInBounds_toArray, List.set_cons_zero, List.set_cons_succ, i64_w, i32_w]
                rfl
              refine one_ (i := 1) (N := (some 23)) #[true, true, false, false, false, false, false, false, false, false, false, false, false, false, false, false, false, false] rfl rfl (by kernel_rfl) (by decide) (fun K hK => ?_)
              refine goes_ Try.func20 (by kernel_rfl) rfl #[odV o] (by rfl) rfl rfl (by (try simp only [List.map_toArray, List.map_cons, List.map_nil]); first | done | rfl) ?_
              with_reducible refine (HF.out _).mono ?_
              rintro e w' ⟨rfl, hb⟩
              refine ⟨_, rfl, ?_⟩
              refine hK.out _ _ ⟨blk_below hHeld.1 hb, below_step hHeld.2 hb⟩ (fun hHeld => ?_)
              clear hK K
              clear hb
              refine norm_ (a' := ?_) ?_ ?_
              rotate_left
              · show Act.put _ (some 23) _ = _
                simp only [Act.put, List.setIfInBounds_toArray, List.set_cons_zero, List.set_cons_succ, i64_w, i32_w]
                rfl
              refine pure_ (i := 2) (N := (some 24)) (v := ?_) (a' := ?_) #[true, true, true, false, false, false, false, false, false, false, false, false, false, false, false, false, false, false] rfl rfl (by kernel_rfl) (fun _ _ _ h => h) (Or.inl ⟨by rfl, ?_⟩) ?_ ?_
              rotate_left
              · intro w'
                go_simp
                with_reducible rfl
              rotate_left
              · simp only [Act.put, List.setIfInBounds_toArray, List.set_cons_zero, List.set_cons_succ, i64_w, i32_w]
                rfl
              refine pure_ (i := 3) (N := (some 25)) (v := ?_) (a' := ?_) #[true, true, true, true, false, false, false, false, false, false, false, false, false, false, false, false, false, false] rfl rfl (by kernel_rfl) (fun _ _ _ h => h) (Or.inl ⟨by rfl, ?_⟩) ?_ ?_
              rotate_left
              · intro w'
                go_simp
                with_reducible rfl
              rotate_left
              · simp only [Act.put, List.setIfInBounds_toArray, List.set_cons_zero, List.set_cons_succ, i64_w, i32_w]
                rfl
              refine pure_ (i := 4) (N := (some 26)) (v := ?_) (a' := ?_) #[true, true, true, true, true, false, false, false, false, false, false, false, false, false, false, false, false, false] rfl rfl (by kernel_rfl) (fun _ _ _ h => h) (Or.inl ⟨by rfl, ?_⟩) ?_ ?_
              rotate_left
              · intro w'
                go_simp
                with_reducible rfl
              rotate_left
              · simp only [Act.put, List.setIfInBounds_toArray, List.set_cons_zero, List.set_cons_succ, i64_w, i32_w]
                rfl
              refine pure_ (i := 5) (N := (some 27)) (v := ?_) (a' := ?_) #[true, true, true, true, true, true, false, false, false, false, false, false, false, false, false, false, false, false] rfl rfl (by kernel_rfl) (fun _ _ _ h => h) (Or.inl ⟨by rfl, ?_⟩) ?_ ?_
              rotate_left
              · intro w'
                go_simp
                with_reducible rfl
              rotate_left
              · simp only [Act.put, List.setIfInBounds_toArray, List.set_cons_zero, List.set_cons_succ, i64_w, i32_w]
                rfl
              refine pure_ (i := 6) (N := (some 28)) (v := ?_) (a' := ?_) #[true, true, true, true, true, true, true, false, false, false, false, false, false, false, false, false, false, false] rfl rfl (by kernel_rfl) (fun _ _ _ h => h) (Or.inl ⟨by rfl, ?_⟩) ?_ ?_
              rotate_left
              · intro w'
                go_simp
                with_reducible rfl
              rotate_left
              · simp only [Act.put, List.setIfInBounds_toArray, List.set_cons_zero, List.set_cons_succ, i64_w, i32_w]
                rfl
              refine pure_ (i := 7) (N := (some 29)) (v := ?_) (a' := ?_) #[true, true, true, true, true, true, true, true, false, false, false, false, false, false, false, false, false, false] rfl rfl (by kernel_rfl) (fun _ _ _ h => h) (Or.inl ⟨by rfl, ?_⟩) ?_ ?_
              rotate_left
              · intro w'
                go_simp
                with_reducible rfl
              rotate_left
              · simp only [Act.put, List.setIfInBounds_toArray, List.set_cons_zero, List.set_cons_succ, i64_w, i32_w]
                rfl
              refine take_ (i := 8) (N := (some 30)) (v := ?_) (a' := ?_) #[true, true, true, true, true, true, true, true, true, false, false, false, false, false, false, false, false, false] rfl rfl (by kernel_rfl) (fun _ _ _ h => h) (Or.inl ⟨by rfl, ?_⟩) hHeld ?_ ?_
              rotate_left
              · rintro w' ⟨s, sb⟩
                obtain ⟨c0, c1, c2, c3, c4, c5, c6, c7⟩ := od_blk s
                have b4 := pw_cell_below sb q4
                clear s sb
                go_simp
                with_reducible rfl
              rotate_left
              · simp only [Act.put, List.setIfInBounds_toArray, List.set_cons_zero, List.set_cons_succ, i64_w, i32_w]
                rfl
              refine pure_ (i := 9) (N := (some 31)) (v := ?_) (a' := ?_) #[true, true, true, true, true, true, true, true, true, true, false, false, false, false, false, false, false, false] rfl rfl (by kernel_rfl) (fun _ _ _ h => h) (Or.inl ⟨by rfl, ?_⟩) ?_ ?_
              rotate_left
              · intro w'
                go_simp
                with_reducible rfl
              rotate_left
              · simp only [Act.put, List.setIfInBounds_toArray, List.set_cons_zero, List.set_cons_succ, i64_w, i32_w]
                rfl
              refine pure_ (i := 10) (N := (some 32)) (v := ?_) (a' := ?_) #[true, true, true, true, true, true, true, true, true, true, true, false, false, false, false, false, false, false] rfl rfl (by kernel_rfl) (fun _ _ _ h => h) (Or.inl ⟨by rfl, ?_⟩) ?_ ?_
              rotate_left
              · intro w'
                go_simp
                with_reducible rfl
              rotate_left
              · simp only [Act.put, List.setIfInBounds_toArray, List.set_cons_zero, List.set_cons_succ, i64_w, i32_w]
                rfl
              refine pure_ (i := 11) (N := (some 33)) (v := ?_) (a' := ?_) #[true, true, true, true, true, true, true, true, true, true, true, true, false, false, false, false, false, false] rfl rfl (by kernel_rfl) (fun _ _ _ h => h) (Or.inl ⟨by rfl, ?_⟩) ?_ ?_
              rotate_left
              · intro w'
                go_simp
                with_reducible rfl
              rotate_left
              · simp only [Act.put, List.setIfInBounds_toArray, List.set_cons_zero, List.set_cons_succ, i64_w, i32_w]
                rfl
              refine pure_ (i := 12) (N := (some 34)) (v := ?_) (a' := ?_) #[true, true, true, true, true, true, true, true, true, true, true, true, true, false, false, false, false, false] rfl rfl (by kernel_rfl) (fun _ _ _ h => h) (Or.inl ⟨by rfl, ?_⟩) ?_ ?_
              rotate_left
              · intro w'
                go_simp
                with_reducible rfl
              rotate_left
              · simp only [Act.put, List.setIfInBounds_toArray, List.set_cons_zero, List.set_cons_succ, i64_w, i32_w]
                rfl
              refine pure_ (i := 13) (N := (some 35)) (v := ?_) (a' := ?_) #[true, true, true, true, true, true, true, true, true, true, true, true, true, true, false, false, false, false] rfl rfl (by kernel_rfl) (fun _ _ _ h => h) (Or.inl ⟨by rfl, ?_⟩) ?_ ?_
              rotate_left
              · intro w'
                go_simp
                with_reducible rfl
              rotate_left
              · simp only [Act.put, List.setIfInBounds_toArray, List.set_cons_zero, List.set_cons_succ, i64_w, i32_w]
                rfl
              refine take_ (i := 14) (N := (some 36)) (v := ?_) (a' := ?_) #[true, true, true, true, true, true, true, true, true, true, true, true, true, true, true, false, false, false] rfl rfl (by kernel_rfl) (fun _ _ _ h => h) (Or.inl ⟨by rfl, ?_⟩) hHeld ?_ ?_
              rotate_left
              · rintro w' ⟨s, sb⟩
                obtain ⟨c0, c1, c2, c3, c4, c5, c6, c7⟩ := od_blk s
                have b4 := pw_cell_below sb q4
                clear s sb
                go_simp
                with_reducible rfl
              rotate_left
              · simp only [Act.put, List.setIfInBounds_toArray, List.set_cons_zero, List.set_cons_succ, i64_w, i32_w]
                rfl
              refine pure_ (i := 15) (N := (some 37)) (v := ?_) (a' := ?_) #[true, true, true, true, true, true, true, true, true, true, true, true, true, true, true, true, false, false] rfl rfl (by kernel_rfl) (fun _ _ _ h => h) (Or.inl ⟨by rfl, ?_⟩) ?_ ?_
              rotate_left
              · intro w'
                go_simp
                with_reducible rfl
              rotate_left
              · simp only [Act.put, List.setIfInBounds_toArray, List.set_cons_zero, List.set_cons_succ, i64_w, i32_w]
                rfl
              refine pure_ (i := 16) (N := (some 38)) (v := ?_) (a' := ?_) #[true, true, true, true, true, true, true, true, true, true, true, true, true, true, true, true, true, false] rfl rfl (by kernel_rfl) (fun _ _ _ h => h) (Or.inl ⟨by rfl, ?_⟩) ?_ ?_
              rotate_left
              · intro w'
                go_simp
                with_reducible rfl
              rotate_left
              · simp only [Act.put, List.setIfInBounds_toArray, List.set_cons_zero, List.set_cons_succ, i64_w, i32_w]
                rfl
              refine pure_ (i := 17) (N := (some 39)) (v := ?_) (a' := ?_) #[true, true, true, true, true, true, true, true, true, true, true, true, true, true, true, true, true, true] rfl rfl (by kernel_rfl) (fun _ _ _ h => h) (Or.inl ⟨by rfl, ?_⟩) ?_ ?_
              rotate_left
              · intro w'
                go_simp
                with_reducible rfl
              rotate_left
              · simp only [Act.put, List.setIfInBounds_toArray, List.set_cons_zero, List.set_cons_succ, i64_w, i32_w]
                rfl
              refine done_ (by kernel_rfl) ?_
              clear z1 z2 z3 z4 z5 q4
              go_wp2_with fail
              go_ret
              exact ⟨by rw [HV.out]; rfl, below_step HB.out hHeld.2⟩
      · obtain rfl : k = l0.length := by omega
        have HV := Lib.hid (show valid l0 = true from by unfold valid; rw [decide_eq_true hlen, ← List.take_length (l := l0)]; exact hI.1)
        have HB := Lib.hid hI.2.2.2
        clear hI
        go_wp2
        go_ret
        exact ⟨by rw [HV.out]; rfl, HB.out⟩
  · have HV := Lib.hid (show valid l0 = false from by unfold valid; rw [decide_eq_false hlen]; rfl)
    go_enter Try.func14, Try.ntmps14
    go_wp2
    go_ret
    exact ⟨by rw [HV.out]; rfl, Below.refl _ _⟩
theorem orders_Valid.calls (A0 : Option Addr) (c0 : Nat) (l0 : List Od) (r : Bool) (w : World) (hr0 : Kd.C k24 w A0 l0.length l0) (hc0 : l0.length ≤ c0) (h : orders_Valid.f l0 = some r) :
    Calls Try.prog 14 #[.slice A0 l0.length c0] w fun e w' => e = .returned (.bool r) ∧ Below w.heap.size w w' := by
  injection h with h
  subst h
  exact valid_any A0 c0 l0 w hr0 hc0
end Go.Proofs.Ytgbcihbnaecejaa.Q

namespace Go.Proofs.YtgbcihbnaecejaaW.PrintLast
open Go Go.RowKit Go.Shelf Go.Lib Go.Sort Go.Proofs.YtgbcihbnaecejaaW.PrintWords
structure Flat {α : Type} (d : Kd α) (enc : α → List Value) : Prop where
  m : ∀ {w : World} {base : Nat} {ok : Nat → Prop} {x : α} {cs : List Value}, d.M w base ok x cs ↔ cs = enc x
  len : ∀ x, (enc x).length = d.sz
  one : ∀ x, ∀ v ∈ enc x, v.oneCell' = true
section
variable {α : Type} {d : Kd α} {enc : α → List Value}
theorem flat_inner (hf : Flat d enc) {w : World} {base : Nat} {ok : Nat → Prop} : ∀ (xs : List α) (cs : List Value), Reps (d.M w base ok) d.sz xs cs ↔ cs = xs.flatMap enc := by
  intro xs
  have mk : Reps (d.M w base ok) d.sz xs (xs.flatMap enc) := by
    induction xs with
    | nil => exact Reps.none _ _
    | cons x xs ih =>
      refine ⟨by simp only [List.flatMap_cons, List.length_append, List.length_cons, hf.len, ih.1, Nat.succ_mul]; omega, fun j p hp => ?_⟩
      cases j with
      | zero =>
        simp at hp
        subst hp
        rw [Nat.zero_mul, List.drop_zero, List.flatMap_cons, List.take_left' (hf.len x)]
        exact hf.m.2 rfl
      | succ j =>
        have h2 := ih.2 j p (by simpa using hp)
        rw [List.flatMap_cons, Nat.succ_mul, show j * d.sz + d.sz = (enc x).length + j * d.sz by rw [hf.len]; omega, ← List.drop_drop, List.drop_left' rfl]
        exact h2
  refine fun cs => ⟨fun h => ?_, fun h => h ▸ mk⟩
  apply List.ext_getElem?
  intro q
  by_cases hsz : d.sz = 0
  · have h1 : cs.length = 0 := by rw [h.1, hsz, Nat.mul_zero]
    have h2 : (xs.flatMap enc).length = 0 := by rw [mk.1, hsz, Nat.mul_zero]
    rw [List.eq_nil_of_length_eq_zero h1, List.eq_nil_of_length_eq_zero h2]
  · by_cases hq : q < xs.length * d.sz
    · have hj : q / d.sz < xs.length := (Nat.div_lt_iff_lt_mul (by omega)).2 hq
      have a := hf.m.1 (h.2 (q / d.sz) _ (List.getElem?_eq_getElem hj))
      have b := hf.m.1 (mk.2 (q / d.sz) _ (List.getElem?_eq_getElem hj))
      have hm : q % d.sz < d.sz := Nat.mod_lt _ (by omega)
      have e : q / d.sz * d.sz + q % d.sz = q := by rw [Nat.mul_comm]; exact Nat.div_add_mod q d.sz
      have a2 := congrArg (fun l : List Value => l[q % d.sz]?) (a.trans b.symm)
      simp only [List.getElem?_take_of_lt hm, List.getElem?_drop, e] at a2
      exact a2
    · rw [List.getElem?_eq_none (by rw [h.1]; omega), List.getElem?_eq_none (by rw [mk.1]; omega)]
theorem R_flat (hf : Flat d enc) {e : Nat} {w : World} {base : Nat} {ok : Nat → Prop} {v : Value} {xs : List α} : d.R e w base ok v xs ↔ (∀ k, v.ownBlock = some k → ok k) ∧ w.ownsRow base e d.sz v xs.length (xs.flatMap enc) := by
  constructor
  · rintro ⟨h0, inner, ho, hr⟩
    obtain rfl := (flat_inner hf xs inner).1 hr
    exact ⟨h0, ho⟩
  · rintro ⟨h0, ho⟩
    exact ⟨h0, _, ho, (flat_inner hf xs _).2 rfl⟩
theorem flat_flatK [Inhabited α] {k : Nat} (hl : ∀ x, (enc x).length = k) (xs : List α) : flatK enc k xs.toArray = (xs.flatMap enc).toArray := by
  have hlen : ∀ ys : List α, (ys.flatMap enc).length = ys.length * k := by
    intro ys
    induction ys with
    | nil => simp
    | cons y ys ih => simp only [List.flatMap_cons, List.length_append, List.length_cons, hl, ih, Nat.succ_mul]; omega
  have key : ∀ (ys : List α) (q : Nat), q < ys.length * k → (ys.flatMap enc)[q]? = some ((enc (ys.toArray[q / k]!))[q % k]!) := by
    intro ys
    induction ys with
    | nil => intro q hq; simp at hq
    | cons y ys ih =>
      intro q hq
      have hk : 0 < k := by
        rcases Nat.eq_zero_or_pos k with h | h
        · rw [h, Nat.mul_zero] at hq; omega
        · exact h
      rw [List.flatMap_cons]
      by_cases hqk : q < k
      · rw [List.getElem?_append_left (by rw [hl]; exact hqk), Nat.div_eq_of_lt hqk, Nat.mod_eq_of_lt hqk]
        have : q < (enc y).length := by rw [hl]; exact hqk
        simp [List.getElem?_eq_getElem this, getElem!_pos (enc y) q this]
      · have h2 : q - k < ys.length * k := by
          rw [List.length_cons, Nat.succ_mul] at hq
          omega
        rw [List.getElem?_append_right (by rw [hl]; omega), hl, ih _ h2]
        have e1 : q / k = (q - k) / k + 1 := by
          rw [← Nat.add_div_right _ hk, Nat.sub_add_cancel (by omega)]
        have e2 : q % k = (q - k) % k := by
          conv => lhs; rw [← Nat.sub_add_cancel (show k ≤ q by omega), Nat.add_mod_right]
        rw [e1, e2]
        have h3 : (q - k) / k < ys.length := (Nat.div_lt_iff_lt_mul hk).2 h2
        congr 2
        simp [getElem!_pos, h3]
  apply Array.ext_getElem?
  intro q
  by_cases hq : q < xs.length * k
  · have h1 := key xs q hq
    have h2 : (xs.flatMap enc).toArray[q]? = (xs.flatMap enc)[q]? := by simp
    rw [h2, h1]
    simp [flatK, hq]
  · have h2 : (xs.flatMap enc).toArray[q]? = (xs.flatMap enc)[q]? := by simp
    rw [h2, Array.getElem?_eq_none (by simp [flatK]; omega), List.getElem?_eq_none (by rw [hlen]; omega)]
theorem holds_id {w : World} {g : Nat} {cur : Array Value} {e : TypeId} {cs : List Value} (hb : w.heap[g]? = some (.cells cur e (0, 0))) (ht : cur.toList.take cs.length = cs) : Holds id w g 0 cs.toArray := by
  intro j hj
  have hj' : j < cs.length := by simpa using hj
  refine ⟨?_, by simp [World.frozen?, hb]⟩
  have h1 : (cur.toList.take cs.length)[j]? = cs[j]? := by rw [ht]
  rw [List.getElem?_take_of_lt hj'] at h1
  simp only [World.cell?, hb, Nat.zero_add]
  simp only [Option.isSome_none, Bool.false_eq_true, if_false]
  rw [← Array.getElem?_toList, h1]
  simp [hj']
theorem heap_sorted_id {w : World} {g n : Nat} {os : Array Obj} {cur : Array Value} {e : TypeId} {fr : Nat × Nat} (d : Array Value) (hb : w.heap[g]? = some (.cells cur e fr)) :
    (grow (putRow id (Sort.ahead w n) g 0 d) os).heap[g]? = some (.cells (putCells id 0 d cur) e fr) := by
  have hg : g < w.heap.size := (Array.getElem?_eq_some_iff.1 hb).1
  rw [heap_grow_old _ _ (by simpa using hg)]
  simp [putRow, mapBlock, Sort.ahead, Array.getElem?_modify, hb, onCells]
theorem grownBy_sorted_id {w : World} {g n : Nat} {os : Array Obj} (d : Array Value) : w.grownBy (grow (putRow id (Sort.ahead w n) g 0 d) os) (some g) := by
  refine ⟨rfl, rfl, rfl, by simp, fun k hk hne => ?_⟩
  rw [heap_grow_old _ _ (by simpa using hk)]
  have : g ≠ k := fun e => hne (by rw [e])
  simp [putRow, mapBlock, Sort.ahead, Array.getElem?_modify, this]
theorem take_putCells_id (cur : Array Value) (ts : List Value) (h : ts.length ≤ cur.size) : (putCells id 0 ts.toArray cur).toList.take ts.length = ts := by
  apply List.ext_getElem?
  intro j
  by_cases hj : j < ts.length
  · rw [List.getElem?_take_of_lt hj, Array.getElem?_toList]
    simp [putCells, hj, show j < cur.size by omega]
  · rw [List.getElem?_take_eq_none (by omega), List.getElem?_eq_none (by omega)]
def sortd [Inhabited α] (cf : α → α → Int) (xs : List α) : List α := (pdq (ltOf cf) xs.toArray 0 xs.length (Lib.bitLen xs.length) true true).toList
theorem sortd_size [Inhabited α] {cf : α → α → Int} (hO : SWO (ltOf cf)) (xs : List α) : (sortd cf xs).Perm xs ∧ ∀ i j, i < j → j < xs.length → ltOf cf (sortd cf xs)[j]! (sortd cf xs)[i]! = false := by
  have h := pdq_sorts (ltOf cf) hO xs.toArray 0 xs.length (Lib.bitLen xs.length) true true (Nat.zero_le _) (Nat.le_of_eq (by rw [List.size_toArray])) (Or.inl rfl)
  obtain ⟨⟨h1, _, h3⟩, h4⟩ := h
  constructor
  · have e1 : ((pdq (ltOf cf) xs.toArray 0 xs.length (Lib.bitLen xs.length) true true).extract 0 xs.length) = pdq (ltOf cf) xs.toArray 0 xs.length (Lib.bitLen xs.length) true true := by
      have : xs.length = (pdq (ltOf cf) xs.toArray 0 xs.length (Lib.bitLen xs.length) true true).size := by rw [h1]; simp
      conv => lhs; arg 3; rw [this]
      exact Array.extract_size
    rw [e1] at h3
    simpa [sortd] using h3
  · intro i j hij hj
    have := h4 i j (Nat.zero_le _) hij hj
    unfold sortd
    rw [Array.getElem!_toList, Array.getElem!_toList]
    exact this
variable {P : Program} {ρ : Ren}
theorem R_sorted [Inhabited α] (hf : Flat d enc) (L : SlLaysF0.n6 P ρ) (aE : ∀ w, (isAgg (ρ.t 24)).run P w = .ok true w) (zE : ∀ w, (Go.sizeOf (ρ.t 24)).run P w = .ok d.sz w) (cf : α → α → Int) (hO : SWO (ltOf cf)) (g : Nat) (cb : Array Value)
    (eg : ∀ args w, (callFunc g args).run P w = .ok (.enter g args) w) {e : Nat} {w : World} {base : Nat} {ok : Nat → Prop} {v : Value} {xs : List α} (HO : d.R e w base ok v xs)
    (hcmp : ∀ blk, v.ownBlock = some blk → CmpLays P g cb enc d.sz cf blk 0 xs.length w) (hlen : xs.length < 4611686018427387904) :
    Calls P (ρ.f 6) #[v, .func (.func g) #[] cb] w fun e' w' => e' = .returned (.tuple #[]) ∧ d.R e w' base ok v (sortd cf xs) ∧ w.grownBy w' v.ownBlock := by
  have hp := (sortd_size hO xs).1
  obtain ⟨h0, ho⟩ := (R_flat hf).1 HO
  rcases ho.2 with ⟨rfl, hn⟩ | ⟨b, cap, cur, rfl, hbase, hb, hnc, hcm, hcs, htk⟩
  · obtain rfl : xs = [] := List.eq_nil_of_length_eq_zero hn
    refine (AnyF.slices_SortFunc_none L none 0 _ w).mono ?_
    rintro e' w' ⟨rfl, rfl⟩
    have : sortd cf ([] : List α) = [] := List.eq_nil_of_length_eq_zero (by simpa using hp.length_eq)
    rw [this]
    exact ⟨rfl, HO, World.grownBy.refl _ _⟩
  · have hlc : (xs.flatMap enc).length = xs.length * d.sz := ho.1
    have hH : HoldsK enc d.sz w b 0 xs.toArray := by
      unfold HoldsK
      rw [flat_flatK hf.len]
      exact holds_id hb (by rw [hlc]; exact htk)
    have hblk : b < w.heap.size := (Array.getElem?_eq_some_iff.1 hb).1
    have hc := AnyQ.slices_SortFunc_eq L d.sz aE zE enc hf.len hf.one cf hO g cb b 0 cap xs.toArray w eg (by simpa using hcmp b rfl) hH hblk (by simpa using hlen)
    rw [List.size_toArray] at hc
    refine hc.mono ?_
    rintro e' w' ⟨rfl, n, os, rfl⟩
    have hsz : (sortd cf xs).length = xs.length := hp.length_eq
    have hlt : ((sortd cf xs).flatMap enc).length = xs.length * d.sz := by
      have : ∀ ys : List α, (ys.flatMap enc).length = ys.length * d.sz := by
        intro ys
        induction ys with
        | nil => simp
        | cons y ys ih => simp only [List.flatMap_cons, List.length_append, List.length_cons, hf.len, ih, Nat.succ_mul]; omega
      rw [this, hsz]
    have hput : sortWorldK enc d.sz w b 0 n (pdq (ltOf cf) xs.toArray 0 xs.length (Lib.bitLen xs.length) true true) os = grow (putRow id (Sort.ahead w n) b 0 ((sortd cf xs).flatMap enc).toArray) os := by
      unfold sortWorldK putRowK
      rw [← flat_flatK hf.len]
      simp [sortd]
    rw [hput]
    refine ⟨rfl, (R_flat hf).2 ⟨h0, by rw [hlt, hsz], .inr ⟨b, cap, _, by rw [hsz], hbase, heap_sorted_id _ hb, by rw [hsz]; exact hnc, hcm, by simp [putCells, hcs], ?_⟩⟩, grownBy_sorted_id _⟩
    rw [hsz, ← hlt]
    refine take_putCells_id cur _ ?_
    rw [hlt, hcs]
    exact Nat.mul_le_mul_right _ hnc
end
end Go.Proofs.YtgbcihbnaecejaaW.PrintLast

namespace Go.Proofs.Ytgbcihbnaecejaa.Q
open Go Go.RowKit Go.Proofs.YtgbcihbnaecejaaW.PrintWords Go.Proofs.YtgbcihbnaecejaaW.PrintLast Go.Proofs.YtgbcihbnaecejaaW.PrintMore Go.Sort
def GrewD (w w' : World) : Prop := ∃ q os, w' = grow (w.drewN q) os
theorem GrewD.refl (w : World) : GrewD w w := ⟨0, #[], by rw [grow_empty]; rfl⟩
theorem GrewD.drew {w w' : World} (h : GrewD w w') : GrewD w w'.drew := by
  obtain ⟨q, os, rfl⟩ := h
  exact ⟨q + 1, os, rfl⟩
theorem GrewD.drewN {w w' : World} (h : GrewD w w') (n : Nat) : GrewD w (w'.drewN n) := by
  obtain ⟨q, os, rfl⟩ := h
  exact ⟨q + n, os, by rw [← World.drewN_drewN]; rfl⟩
theorem GrewD.alloc {w w' : World} (h : GrewD w w') (o : Obj) : GrewD w (w'.alloc o) := by
  obtain ⟨q, os, rfl⟩ := h
  exact ⟨q, os ++ #[o], by rw [alloc_eq_grow, grow_grow]⟩
theorem GrewD.below {w w' : World} (h : GrewD w w') : Below w.heap.size w w' := by
  obtain ⟨q, os, rfl⟩ := h
  exact ⟨rfl, rfl, rfl, by simp, fun i hi => heap_grow_old _ _ hi⟩
theorem GrewD.cell {w w' : World} (h : GrewD w w') {a : Addr} {v : Value} (hc : w.cell? a = some v) : w'.cell? a = some v := pw_cell_below h.below hc
end Go.Proofs.Ytgbcihbnaecejaa.Q

namespace Go.Proofs
open Go.Shelf
def Try.sortE_ren : Go.Shelf.Ren := ⟨fun | 6 => 26 | 15 => 36 | 14 => 35 | 28 => 48 | 29 => 49 | 20 => 40 | 21 => 41 | 22 => 42 | 23 => 43 | 24 => 44 | 25 => 45 | 26 => 46 | 27 => 47 | 46 => 51 | 47 => 52 | 48 => 53 | 49 => 54 | 50 => 55 | 57 => 57 | n => n, fun | 22 => 22 | 24 => 24 | 25 => 54 | 3 => 3 | 39 => 61 | 0 => 0 | 53 => 75 | 55 => 77 | 4 => 4 | 46 => 68 | 45 => 67 | 50 => 72 | 5 => 5 | 9 => 9 | 66 => 79 | 70 => 83 | 76 => 86 | 77 => 87 | n => n, fun | n => n⟩
theorem Try.sortE : Go.Proofs.SlLaysF0.n6 Try.prog Try.sortE_ren := {
  mixed := by kernel_rfl
  f6 := ⟨Try.f26.name, by decide, Try.func26.trans (congrArg some (by kernel_rfl))⟩
  f14 := ⟨Try.f35.name, by decide, Try.func35.trans (congrArg some (by kernel_rfl))⟩
  f15 := Try.func36.trans (congrArg some (by kernel_rfl))
  f20 := ⟨Try.f40.name, by decide, Try.func40.trans (congrArg some (by kernel_rfl))⟩
  f21 := ⟨Try.f41.name, by decide, Try.func41.trans (congrArg some (by kernel_rfl))⟩
  f22 := ⟨Try.f42.name, by decide, Try.func42.trans (congrArg some (by kernel_rfl))⟩
  f23 := ⟨Try.f43.name, by decide, Try.func43.trans (congrArg some (by kernel_rfl))⟩
  f24 := ⟨Try.f44.name, by decide, Try.func44.trans (congrArg some (by kernel_rfl))⟩
  f25 := ⟨Try.f45.name, by decide, Try.func45.trans (congrArg some (by kernel_rfl))⟩
  f26 := ⟨Try.f46.name, by decide, Try.func46.trans (congrArg some (by kernel_rfl))⟩
  f27 := ⟨Try.f47.name, by decide, Try.func47.trans (congrArg some (by kernel_rfl))⟩
  f28 := Try.func48.trans (congrArg some (by kernel_rfl))
  f29 := Try.func49.trans (congrArg some (by kernel_rfl))
  f46 := ⟨Try.f51.name, by decide, Try.func51.trans (congrArg some (by kernel_rfl))⟩
  f47 := Try.func52.trans (congrArg some (by kernel_rfl))
  f48 := Try.func53.trans (congrArg some (by kernel_rfl))
  f49 := ⟨Try.f54.name, by decide, Try.func54.trans (congrArg some (by kernel_rfl))⟩
  f50 := ⟨Try.f55.name, by decide, Try.func55.trans (congrArg some (by kernel_rfl))⟩
  f57 := ⟨Try.f57.name, by decide, Try.func57.trans (congrArg some (by kernel_rfl))⟩
  t0 := Try.underlying0
  a0 := Try.isAgg0
  z0 := Try.sizeOf0
  v0 := Try.zeroValue0
  t3 := Try.underlying3
  a3 := Try.isAgg3
  z3 := Try.sizeOf3
  v3 := Try.zeroValue3
  t4 := Try.underlying4
  a4 := Try.isAgg4
  z4 := Try.sizeOf4
  v4 := Try.zeroValue4
  t5 := Try.underlying5
  a5 := Try.isAgg5
  z5 := Try.sizeOf5
  v5 := Try.zeroValue5
  t9 := Try.underlying9
  a9 := Try.isAgg9
  z9 := Try.sizeOf9
  v9 := Try.zeroValue9
  t22 := Try.underlying22
  a22 := Try.isAgg22
  z22 := Try.sizeOf22
  v22 := Try.zeroValue22
  t25 := Try.underlying54
  a25 := Try.isAgg54
  z25 := Try.sizeOf54
  v25 := Try.zeroValue54
  t39 := Try.underlying61
  a39 := Try.isAgg61
  z39 := Try.sizeOf61
  v39 := Try.zeroValue61
  t45 := Try.underlying67
  a45 := Try.isAgg67
  z45 := Try.sizeOf67
  v45 := Try.zeroValue67
  t46 := Try.underlying68
  a46 := Try.isAgg68
  z46 := Try.sizeOf68
  v46 := Try.zeroValue68
  t50 := Try.underlying72
  a50 := Try.isAgg72
  z50 := Try.sizeOf72
  v50 := Try.zeroValue72
  t53 := Try.underlying75
  a53 := Try.isAgg75
  z53 := Try.sizeOf75
  v53 := Try.zeroValue75
  t55 := Try.underlying77
  a55 := Try.isAgg77
  z55 := Try.sizeOf77
  v55 := Try.zeroValue77
  t66 := Try.underlying79
  a66 := Try.isAgg79
  z66 := Try.sizeOf79
  v66 := Try.zeroValue79
  t70 := Try.underlying83
  a70 := Try.isAgg83
  z70 := Try.sizeOf83
  v70 := Try.zeroValue83
  t76 := Try.underlying86
  a76 := Try.isAgg86
  z76 := Try.sizeOf86
  v76 := Try.zeroValue86
  t77 := Try.underlying87
  a77 := Try.isAgg87
  z77 := Try.sizeOf87
  v77 := Try.zeroValue87 }
end Go.Proofs

namespace Go.Proofs.Ytgbcihbnaecejaa.Q
open Go Go.RowKit Go.Lib Go.Proofs.YtgbcihbnaecejaaW.PrintWords Go.Proofs.YtgbcihbnaecejaaW.PrintLast Go.Proofs.YtgbcihbnaecejaaW.PrintMore Go.Sort
set_option linter.unusedVariables false
set_option linter.unusedSimpArgs false
def cmpI (a b : Int) : Int := if a < b then -1 else if a > b then 1 else 0
theorem cmpI_c (a b : Int) (W : World) : Calls Try.prog 29 #[.int .i64 a, .int .i64 b] W fun e w' => e = .returned (.int .i64 (cmpI a b)) ∧ ∃ n, w' = W.drewN n := by
  have h : cmp_Compare_int.f a b = some (cmpI a b) := by
    unfold cmp_Compare_int.f cmp_isNaN_int.f cmpI
    by_cases h1 : a < b
    · simp [h1]
    · by_cases h2 : a > b <;> simp [h1, h2]
  exact (cmp_Compare_int.calls a b _ W h).mono fun e w' h => ⟨h.1, h.2.out⟩
def firstI (a b : Int) : Int := if a = 0 then b else a
theorem two_new0 (W : World) (a b : Value) (t : TypeId) : (W.alloc (.cells #[a, b] t)).cell? ⟨W.heap.size, 0, none⟩ = some a := blk_cell (heap_alloc_new W (.cells #[a, b] t)) 0
theorem two_new1 (W : World) (a b : Value) (t : TypeId) : (W.alloc (.cells #[a, b] t)).cell? ((⟨W.heap.size, 0, none⟩ : Addr).add 1) = some b := blk_cell (heap_alloc_new W (.cells #[a, b] t)) 1
theorem first_c (a b : Int) (A : Addr) (W : World) (h0 : W.cell? A = some (.int .i64 a)) (h1 : W.cell? (A.add 1) = some (.int .i64 b)) : Calls Try.prog 28 #[.slice (some A) 2 2] W fun e w' => e = .returned (.int .i64 (firstI a b)) ∧ ∃ n, w' = W.drewN n := by
  have hr : Kd.C (Kd.int .i64) W (some A) [a, b].length [a, b] := by
    refine ⟨rfl, by simp, fun _ => ⟨A, rfl, fun j p hp => ?_⟩⟩
    match j, hp with
    | 0, hp =>
      simp at hp
      subst hp
      exact ⟨[.int .i64 a], rfl, rfl, fun j u hu => by match j, hu with | 0, hu => simpa [Addr.add] using hu ▸ h0 | j + 1, hu => simp at hu⟩
    | 1, hp =>
      simp at hp
      subst hp
      exact ⟨[.int .i64 b], rfl, rfl, fun j u hu => by match j, hu with | 0, hu => simpa using hu ▸ h1 | j + 1, hu => simp at hu⟩
    | j + 2, hp => simp at hp
  have r0 : Go.Proofs.YtgbcihbnaecejaaW.PrintWords.rd [a, b] 0 = a := rfl
  have w1 : wrap64 (0 + 1) = 1 := by unfold wrap64; omega
  have w2 : wrap64 (1 + 1) = 2 := by unfold wrap64; omega
  have r1 : Go.Proofs.YtgbcihbnaecejaaW.PrintWords.rd [a, b] 1 = b := rfl
  have l2 : ((List.length [a, b] : Nat) : Int) = 2 := rfl
  have hf : orders_first.f 9 [a, b] = some (firstI a b) := by
    unfold firstI
    show orders_first.l0 9 [a, b] 2 0 = _
    simp only [orders_first.l0, l2, r0, w1, r1, w2]
    by_cases e : a = 0
    · by_cases e2 : b = 0
      · simp [e, e2]
      · simp [e, e2]
    · simp [e]
  exact (orders_first.calls 9 (some A) 2 [a, b] _ W hr (by simp) hf).mono fun e w' h => ⟨h.1, h.2.out⟩
def odEnc (x : Od) : List Value := [.int .i64 x.f0, .string x.f1, .string x.f2, .int .i64 x.f3, .int .i64 x.f4, .int .i64 x.f5, .int .i64 x.f6, .bool x.f7]
def odCmp (x y : Od) : Int := firstI (cmpI x.f3 y.f3) (cmpI x.f0 y.f0)
theorem od_lt (x y : Od) : ltOf odCmp x y = decide (lessO x y) := by
  unfold ltOf odCmp firstI cmpI lessO
  by_cases h1 : x.f3 < y.f3
  · simp [h1]
  · by_cases h2 : x.f3 > y.f3
    · simp [h1, h2]
      omega
    · by_cases h3 : x.f0 < y.f0
      · simp [h1, h2, h3]
        omega
      · by_cases h4 : x.f0 > y.f0 <;> simp [h1, h2, h3, h4]
theorem od_swo : SWO (ltOf odCmp) where
  irrefl x := by rw [od_lt]; simp [lessO]
  trans x y z h1 h2 := by
    rw [od_lt, decide_eq_true_eq] at *
    exact lessO_trans h1 h2
  ntrans x y z h1 h2 := by
    rw [od_lt, decide_eq_false_iff_not] at *
    unfold lessO at *
    omega
theorem od_flat : Flat k24 odEnc where
  m := ⟨fun h => k24_openM h, fun h => h ▸ k24_mkM _ _ _ _⟩
  len _ := rfl
  one x v hv := by
    simp only [odEnc, List.mem_cons, List.not_mem_nil, or_false] at hv
    rcases hv with rfl | rfl | rfl | rfl | rfl | rfl | rfl | rfl <;> rfl
set_option maxRecDepth 100000 in
set_option maxHeartbeats 4000000 in
theorem od_clos (x y : Od) (W : World) :
    Calls Try.prog 27 #[.agg #[.int .i64 x.f0, .string x.f1, .string x.f2, .int .i64 x.f3, .int .i64 x.f4, .int .i64 x.f5, .int .i64 x.f6, .bool x.f7], .agg #[.int .i64 y.f0, .string y.f1, .string y.f2, .int .i64 y.f3, .int .i64 y.f4, .int .i64 y.f5, .int .i64 y.f6, .bool y.f7]] W fun e w' => e = .returned (.int .i64 (odCmp x y)) ∧ GrewD W w' := by
  go_enter Try.func27, Try.ntmps27
  go_wp2
  have hg : GrewD W ((W.alloc (.cells #[.int .i64 x.f0, .string x.f1, .string x.f2, .int .i64 x.f3, .int .i64 x.f4, .int .i64 x.f5, .int .i64 x.f6, .bool x.f7] 24)).alloc (.cells #[.int .i64 y.f0, .string y.f1, .string y.f2, .int .i64 y.f3, .int .i64 y.f4, .int .i64 y.f5, .int .i64 y.f6, .bool y.f7] 24)) := ((GrewD.refl W).alloc _).alloc _
  have hx0 : ((W.alloc (.cells #[.int .i64 x.f0, .string x.f1, .string x.f2, .int .i64 x.f3, .int .i64 x.f4, .int .i64 x.f5, .int .i64 x.f6, .bool x.f7] 24)).alloc (.cells #[.int .i64 y.f0, .string y.f1, .string y.f2, .int .i64 y.f3, .int .i64 y.f4, .int .i64 y.f5, .int .i64 y.f6, .bool y.f7] 24)).heap[W.heap.size]? = some (.cells #[.int .i64 x.f0, .string x.f1, .string x.f2, .int .i64 x.f3, .int .i64 x.f4, .int .i64 x.f5, .int .i64 x.f6, .bool x.f7] 24) := blk_alloc (heap_alloc_new W _) _
  have hy0 : ((W.alloc (.cells #[.int .i64 x.f0, .string x.f1, .string x.f2, .int .i64 x.f3, .int .i64 x.f4, .int .i64 x.f5, .int .i64 x.f6, .bool x.f7] 24)).alloc (.cells #[.int .i64 y.f0, .string y.f1, .string y.f2, .int .i64 y.f3, .int .i64 y.f4, .int .i64 y.f5, .int .i64 y.f6, .bool y.f7] 24)).heap[W.heap.size + 1]? = some (.cells #[.int .i64 y.f0, .string y.f1, .string y.f2, .int .i64 y.f3, .int .i64 y.f4, .int .i64 y.f5, .int .i64 y.f6, .bool y.f7] 24) := by simpa using heap_alloc_new (W.alloc (.cells #[.int .i64 x.f0, .string x.f1, .string x.f2, .int .i64 x.f3, .int .i64 x.f4, .int .i64 x.f5, .int .i64 x.f6, .bool x.f7] 24)) (.cells #[.int .i64 y.f0, .string y.f1, .string y.f2, .int .i64 y.f3, .int .i64 y.f4, .int .i64 y.f5, .int .i64 y.f6, .bool y.f7] 24)
  generalize ((W.alloc (.cells #[.int .i64 x.f0, .string x.f1, .string x.f2, .int .i64 x.f3, .int .i64 x.f4, .int .i64 x.f5, .int .i64 x.f6, .bool x.f7] 24)).alloc (.cells #[.int .i64 y.f0, .string y.f1, .string y.f2, .int .i64 y.f3, .int .i64 y.f4, .int .i64 y.f5, .int .i64 y.f6, .bool y.f7] 24)) = W2 at hg hx0 hy0 ⊢
  generalize W.heap.size + 1 = gy at hy0 ⊢
  generalize W.heap.size = gx at hx0 ⊢
  have a0 := blk_cell hx0 0
  have a3 := blk_cell hx0 3
  have b0 := blk_cell hy0 0
  have b3 := blk_cell hy0 3
  simp only [List.getElem?_toArray, List.getElem?_cons_zero, List.getElem?_cons_succ] at a0 a3 b0 b3
  have HG := Lib.hid hg
  clear hg hx0 hy0
  go_region_held3 (fun w' => w'.cell? ⟨gx, 0, none⟩ = some (.int .i64 x.f0) ∧ w'.cell? ⟨gx, 3, none⟩ = some (.int .i64 x.f3) ∧ w'.cell? ⟨gy, 0, none⟩ = some (.int .i64 y.f0) ∧ w'.cell? ⟨gy, 3, none⟩ = some (.int .i64 y.f3)) (go_keep)
    (first | (go_at_call 29; refine (cmpI_c _ _ _).mono ?_; rintro e w' ⟨rfl, n, rfl⟩) | (go_at_call 28; refine (first_c (cmpI x.f3 y.f3) (cmpI x.f0 y.f0) _ _ (two_new0 _ _ _ _) (two_new1 _ _ _ _)).mono ?_; rintro e w' ⟨rfl, n, rfl⟩))
  go_wp2
  go_ret
  exact ⟨rfl, by repeat (first | exact HG.out | apply GrewD.drewN | apply GrewD.drew | apply GrewD.alloc)⟩
instance : Inhabited Od := ⟨z24⟩
theorem od_lays (cb : Nat) (blk size : Nat) (w : World) : CmpLays Try.prog 27 #[] odEnc 8 odCmp blk 0 size w := by
  intro m os dk hs x y
  exact od_clos x y _
theorem od_sorted (xs : List Od) (hd : xs.Pairwise (fun a b => a.f0 ≠ b.f0)) : (sortd odCmp xs).Perm xs ∧ (sortd odCmp xs).Pairwise lessO := by
  obtain ⟨h1, h2⟩ := sortd_size od_swo xs
  refine ⟨h1, ?_⟩
  have hd' : (sortd odCmp xs).Pairwise (fun a b => a.f0 ≠ b.f0) := h1.symm.pairwise hd (fun {a b} h => fun e => h e.symm)
  rw [List.pairwise_iff_getElem] at hd' ⊢
  intro i j hi hj hij
  have h3 := h2 i j hij (by rw [h1.length_eq] at hj; exact hj)
  rw [getElem!_pos (sortd odCmp xs) i hi, getElem!_pos (sortd odCmp xs) j hj, od_lt, decide_eq_false_iff_not] at h3
  have h4 := hd' i j hi hj hij
  unfold lessO at h3 ⊢
  omega
theorem od_sort_c {w : World} {base : Nat} {v : Value} {xs : List Od} (h : w.ownsRow base 24 8 v xs.length (xs.flatMap odEnc)) (hd : xs.Pairwise (fun a b => a.f0 ≠ b.f0)) (hl : xs.length ≤ 400) :
    Calls Try.prog 26 #[v, .func (.func 27) #[] #[]] w fun e w' => e = .returned (.tuple #[]) ∧ Kd.R k24 24 w' base (fun _ => True) v (sortO xs) ∧ w.grownBy w' v.ownBlock := by
  have eg := enters_of Try.func27 (by kernel_rfl) rfl
  have hR : Kd.R k24 24 w base (fun _ => True) v xs := (R_flat od_flat).2 ⟨fun _ _ => trivial, h⟩
  refine (R_sorted od_flat Try.sortE Try.isAgg24 Try.sizeOf24 odCmp od_swo 27 #[] eg hR (fun blk _ => od_lays 0 blk _ _) (by omega)).mono ?_
  rintro e w' ⟨rfl, h2, h3⟩
  obtain ⟨p1, p2⟩ := od_sorted xs hd
  rw [sortO_of_perm hd p1 p2] at h2
  exact ⟨rfl, h2, h3⟩
end Go.Proofs.Ytgbcihbnaecejaa.Q

namespace Go.Proofs
open Go.Shelf
def Try.l21_ren : Go.Shelf.Ren := ⟨fun | 8 => 21 | 6 => 33 | n => n, fun | 22 => 22 | 23 => 24 | 25 => 42 | 4 => 4 | 3 => 3 | 0 => 0 | n => n, fun | n => n⟩
theorem Try.l21 : Go.Proofs.SlLaysH0.n8 Try.prog Try.l21_ren := {
  mixed := by kernel_rfl
  f6 := ⟨Try.f33.name, by decide, Try.func33.trans (congrArg some (by kernel_rfl))⟩
  f8 := ⟨Try.f21.name, by decide, Try.func21.trans (congrArg some (by kernel_rfl))⟩
  t0 := Try.underlying0
  a0 := Try.isAgg0
  z0 := Try.sizeOf0
  v0 := Try.zeroValue0
  t3 := Try.underlying3
  a3 := Try.isAgg3
  z3 := Try.sizeOf3
  v3 := Try.zeroValue3
  t4 := Try.underlying4
  a4 := Try.isAgg4
  z4 := Try.sizeOf4
  v4 := Try.zeroValue4
  t22 := Try.underlying22
  a22 := Try.isAgg22
  z22 := Try.sizeOf22
  v22 := Try.zeroValue22
  t25 := Try.underlying42
  a25 := Try.isAgg42
  z25 := Try.sizeOf42
  v25 := Try.zeroValue42 }
end Go.Proofs

namespace Go.Proofs.Ytgbcihbnaecejaa.Q
open Go Go.RowKit Go.Proofs.YtgbcihbnaecejaaW.PrintWords Go.Proofs.YtgbcihbnaecejaaW.PrintLast Go.Proofs.YtgbcihbnaecejaaW.PrintMore
set_option linter.unusedVariables false
set_option linter.unusedSimpArgs false
theorem clone_od.nil (c0 : Nat) (w : World) :
    Calls Try.prog 23 #[.slice none 0 c0] w fun e w' => ∃ v0_ : Value, e = .returned v0_ ∧ Kd.R k24 24 w' w.heap.size (fun _ => True) v0_ [] ∧ Below w.heap.size w w' := by
  have hq := fun (W : World) => Lib.run_eql_slice_nil W 22 24 none 0 c0 0 0 Try.underlying22
  go_enter Try.func23, Try.ntmps23
  go_wp2
  go_ret
  exact ⟨_, rfl, Kd.R_nil _ _ _ _ _, Below.refl _ _⟩
set_option maxHeartbeats 1000000 in
theorem clone_od.some_ (A0 : Addr) (c0 : Nat) (l0 : List Od) (w : World) (hr0 : Kd.C k24 w (some A0) l0.length l0) (hc0 : l0.length ≤ c0) (hl : l0.length < 1759218604441) :
    Calls Try.prog 23 #[.slice (some A0) l0.length c0] w fun e w' => ∃ v0_ : Value, e = .returned v0_ ∧ Kd.R k24 24 w' w.heap.size (fun _ => True) v0_ l0 ∧ Below w.heap.size w w' := by
  have HR0 := Aside0.mk hr0
  have HC0 := Aside0.mk hc0
  have LM := Aside0.mk hl
  clear hr0 hc0 hl
  have hq := fun (W : World) => Lib.run_eql_slice_nil W 22 24 (some A0) l0.length c0 0 0 Try.underlying22
  have HB := Aside0.mk (Below.refl w.heap.size w)
  go_enter Try.func23, Try.ntmps23
  go_wp2_with (first | ((with_reducible refine gate_dst (N := 5) rfl ?_); refine Kd.R_lit k24 w.heap.size 24 ?hg (N := 5) ?hd (w0 := w) (xs := ([] : List Od)) (inner := []) (ok := fun _ => True) (okp := fun _ => True) ?hr ?hp (fun _ hk => hk) trivial (Below.refl _ _) (Nat.le_refl _) (by simp) ?_; (case hd => rfl); (case hg => rfl); (case hr => first | (go_simp; done) | (go_simp; rfl)); (case hp => exact Reps.none _ _); intro v1 w1 ho hb hg hat; have HO := Aside0.mk ho; clear HB; have HB := Aside0.mk hb; clear ho hb hg hat) | ((with_reducible refine gate_builtin (b := .append) (xs := #[.tmp 5, .tmp 6]) rfl ?_); at_builtin; refine Kd.R_append_rows k24 (w0 := w) w.heap.size rfl (.tmp 5) (.tmp 6) 22 24 (.agg #[(.int .i64 0), (.string ⟨#[]⟩), (.string ⟨#[]⟩), (.int .i64 0), (.int .i64 0), (.int .i64 0), (.int .i64 0), (.bool false)]) 80 rfl Try.underlying22 info24 rfl (by decide) (by omega) v1 ([] : List Od) l0 _ _ _ (fun _ => True) (fun _ => False) rfl rfl ?aO ?aR (fun _ _ h => h) (fun _ h => h.elim) ?aF ?aB ?aS ?aL ?_; (case aR => exact Kd.C_below HR0.out HB.out); (case aB => exact HB.out); (case aF => exact (fun _ _ => trivial)); (case aO => exact HO.out); (case aS => exact below_size HB.out); (case aL => have := LM.out; simp only [List.length_nil]; omega); intro v2 w2 ho hb hg hat; rw [List.nil_append] at ho; clear HO HB; have HO := Aside0.mk ho; have HB := Aside0.mk hb; clear ho hb hg hat))
  go_ret
  exact ⟨_, rfl, HO.out, HB.out⟩
theorem clone_od (A0 : Option Addr) (c0 : Nat) (l0 : List Od) (w : World) (hr0 : Kd.C k24 w A0 l0.length l0) (hc0 : l0.length ≤ c0) (hl : l0.length < 1759218604441) :
    Calls Try.prog 23 #[.slice A0 l0.length c0] w fun e w' => ∃ v0_ : Value, e = .returned v0_ ∧ Kd.R k24 24 w' w.heap.size (fun _ => True) v0_ l0 ∧ Below w.heap.size w w' := by
  cases A0 with
  | none =>
    have h0 : l0 = [] := by
      rcases Nat.eq_zero_or_pos l0.length with h | h
      · exact List.eq_nil_of_length_eq_zero h
      · obtain ⟨ad, h1, _⟩ := hr0.2.2 h
        cases h1
    subst h0
    exact clone_od.nil c0 w
  | some A0 => exact clone_od.some_ A0 c0 l0 w hr0 hc0 hl
def recO (l : List Od) (o : Od) : List Od × Int :=
  if valid l = true ∧ formedOk o = true then (if lastLe l o = true then (if sameParties l o = true then (if valid (l ++ [o]) = true then (l ++ [o], 0) else ([], 2)) else ([], 311)) else ([], 6)) else ([], 1)
def clash (o x : Od) : Bool := decide (x.f0 = o.f0 ∧ ¬ (x.f1 = o.f1 ∧ x.f2 = o.f2))
theorem any_clash (l : List Od) (o : Od) : l.any (clash o) = !sameParties l o := by
  unfold sameParties
  rw [Bool.eq_iff_iff, List.any_eq_true, Bool.not_eq_true', ← Bool.not_eq_true, List.all_eq_true]
  constructor
  · rintro ⟨x, hx, hc⟩ h
    have h1 := of_decide_eq_true hc
    exact h1.2 (of_decide_eq_true (h x hx) h1.1)
  · intro h
    refine Classical.byContradiction fun hn => h fun x hx => decide_eq_true fun h0 => Classical.byContradiction fun h1 => hn ⟨x, hx, decide_eq_true ⟨h0, h1⟩⟩
set_option maxHeartbeats 2000000 in
theorem clash_pred (o : Od) (B : Nat) (w : World) (hb : w.heap[B]? = some (.cells #[.int .i64 o.f0, .string o.f1, .string o.f2, .int .i64 o.f3, .int .i64 o.f4, .int .i64 o.f5, .int .i64 o.f6, .bool o.f7] 24 (0, 0))) :
    PredBelow Try.prog 22 #[.pointer (some ⟨B, 0, none⟩)] (fun x => .agg (odEnc x).toArray) (clash o) w := fun W x hbl => by
  have h1 := blk_below hb hbl
  have hB : B < w.heap.size := (Array.getElem?_eq_some_iff.1 hb).1
  have hBW : B < W.heap.size := Nat.lt_of_lt_of_le hB hbl.size
  obtain ⟨v0, v1, v2, -, -, -, -, -⟩ := od_blk h1
  have HB := Lib.hid hbl
  clear h1 hbl hb
  show Calls Try.prog 22 #[.agg #[.int .i64 x.f0, .string x.f1, .string x.f2, .int .i64 x.f3, .int .i64 x.f4, .int .i64 x.f5, .int .i64 x.f6, .bool x.f7], .pointer (some ⟨B, 0, none⟩)] W _
  by_cases h0 : x.f0 = o.f0
  · by_cases h1 : x.f1 = o.f1
    · by_cases h2 : x.f2 = o.f2
      · have HR := Lib.hid (show clash o x = false from decide_eq_false (fun h => h.2 ⟨h1, h2⟩))
        rw [h0, h1, h2]
        clear h0 h1 h2
        go_enter Try.func22, Try.ntmps22
        go_wp2
        go_ret
        exact ⟨by rw [HR.out]; rfl, below_alloc HB.out _⟩
      · have HR := Lib.hid (show clash o x = true from decide_eq_true ⟨h0, fun h => h2 h.2⟩)
        have ne : ¬ x.f2.toList = o.f2.toList := fun h => h2 (str_eq.1 h)
        have ne' : (x.f2.toList == o.f2.toList) = false := beq_eq_false_iff_ne.2 ne
        rw [h0, h1]
        clear h0 h1 h2
        go_enter Try.func22, Try.ntmps22
        go_wp2
        go_ret
        exact ⟨by rw [HR.out]; rfl, below_alloc HB.out _⟩
    · have HR := Lib.hid (show clash o x = true from decide_eq_true ⟨h0, fun h => h1 h.1⟩)
      have ne : ¬ x.f1.toList = o.f1.toList := fun h => h1 (str_eq.1 h)
      have ne' : (x.f1.toList == o.f1.toList) = false := beq_eq_false_iff_ne.2 ne
      rw [h0]
      clear h0 h1
      go_enter Try.func22, Try.ntmps22
      go_wp2
      go_ret
      exact ⟨by rw [HR.out]; rfl, below_alloc HB.out _⟩
  · have HR := Lib.hid (show clash o x = false from decide_eq_false (fun h => h0 h.1))
    go_enter Try.func22, Try.ntmps22
    go_wp2
    go_ret
    exact ⟨by rw [HR.out]; rfl, below_alloc HB.out _⟩
theorem last_le {l : List Od} {o : Od} (h : 0 < l.length) : lastLe l o = decide ((odAt l (l.length - 1)).f4 ≤ o.f4) := by
  have e := take_odAt (l := l) (i := l.length - 1) (by omega)
  rw [Nat.sub_add_cancel h, List.take_length] at e
  unfold lastLe
  conv => lhs; rw [e]
  rw [List.getLast?_concat]
theorem addr_plain {w : World} {a : Addr} {v : Value} (h : w.cell? a = some v) : a = ⟨a.block, a.off, none⟩ := by
  cases a with
  | mk b o s =>
    cases s with
    | none => rfl
    | some s =>
      unfold World.cell? at h
      split at h <;> simp at h
theorem contains_some (A0 : Option Addr) (c0 : Nat) (l : List Od) (o : Od) (B : Nat) (w : World) (hr : Kd.C k24 w A0 l.length l) (hl : 0 < l.length) (hlen : l.length ≤ 400) (hb : w.heap[B]? = some (.cells #[.int .i64 o.f0, .string o.f1, .string o.f2, .int .i64 o.f3, .int .i64 o.f4, .int .i64 o.f5, .int .i64 o.f6, .bool o.f7] 24 (0, 0))) :
    Calls Try.prog 21 #[.slice A0 l.length c0, .func (.func 22) #[] #[.pointer (some ⟨B, 0, none⟩)]] w fun e w' => e = .returned (.bool (!sameParties l o)) ∧ Below w.heap.size w w' := by
  have eg : ∀ args w, (callFunc 22 args).run Try.prog w = .ok (.enter 22 args) w := enters_of Try.func22 (by kernel_rfl) rfl
  obtain ⟨ad, rfl, q0, -⟩ := od_cells hr (i := 0) hl
  have hp : ad.add (0 * 8) = ad := by simp [Addr.add]
  rw [hp] at q0
  have hpl := addr_plain q0
  have hbk : ad.block < w.heap.size := World.block_lt_of_cell? w ad q0
  rw [hpl]
  have h := AnyQ.slices_ContainsFunc Try.l21 8 Try.isAgg24 Try.sizeOf24 odEnc (fun _ => rfl) (clash o) 22 #[.pointer (some ⟨B, 0, none⟩)] eg ad.block ad.off l.length c0 l w (clash_pred o B w hb) (Nat.le_refl _) (by omega) hbk (fun j hj i v hi => by
    obtain ⟨ad', e', h0, h1, h2, h3, h4, h5, h6, h7⟩ := od_cells hr hj
    cases e'
    have eo : l[j]! = odAt l j := by
      unfold odAt
      rw [getElem!_pos l j hj, List.getD_eq_getElem?_getD, List.getElem?_eq_getElem hj]
      rfl
    rw [eo] at hi
    rw [hpl] at h0 h1 h2 h3 h4 h5 h6 h7
    have ea : (Addr.mk ad.block ad.off none).add (j * 8) = ⟨ad.block, ad.off + j * 8, none⟩ := by rw [Addr.add_lit]
    rw [ea] at h0 h1 h2 h3 h4 h5 h6 h7
    match i, hi with
    | 0, hi => simp [odEnc] at hi; rw [← hi]; exact h0
    | 1, hi => simp [odEnc] at hi; rw [← hi]; exact h1
    | 2, hi => simp [odEnc] at hi; rw [← hi]; exact h2
    | 3, hi => simp [odEnc] at hi; rw [← hi]; exact h3
    | 4, hi => simp [odEnc] at hi; rw [← hi]; exact h4
    | 5, hi => simp [odEnc] at hi; rw [← hi]; exact h5
    | 6, hi => simp [odEnc] at hi; rw [← hi]; exact h6
    | 7, hi => simp [odEnc] at hi; rw [← hi]; exact h7
    | i + 8, hi => simp [odEnc] at hi)
  rw [List.take_length, any_clash] at h
  exact h
set_option maxRecDepth 100000 in
set_option maxHeartbeats 2000000 in
theorem contains_nil (A0 : Option Addr) (c0 : Nat) (B : Nat) (w : World) :
    Calls Try.prog 21 #[.slice A0 0 c0, .func (.func 22) #[] #[.pointer (some ⟨B, 0, none⟩)]] w fun e w' => e = .returned (.bool false) ∧ w' = w := by
  go_enter Try.func21, Try.ntmps21
  go_wp2
  refine wp_loop_rounds 1 ?_
  rw [rounds_succ]
  go_wp2
  go_ret
  exact ⟨rfl, rfl⟩
theorem contains_any (A0 : Option Addr) (c0 : Nat) (l : List Od) (o : Od) (B : Nat) (w : World) (hr : Kd.C k24 w A0 l.length l) (hlen : l.length ≤ 400) (hb : w.heap[B]? = some (.cells #[.int .i64 o.f0, .string o.f1, .string o.f2, .int .i64 o.f3, .int .i64 o.f4, .int .i64 o.f5, .int .i64 o.f6, .bool o.f7] 24 (0, 0))) :
    Calls Try.prog 21 #[.slice A0 l.length c0, .func (.func 22) #[] #[.pointer (some ⟨B, 0, none⟩)]] w fun e w' => e = .returned (.bool (!sameParties l o)) ∧ Below w.heap.size w w' := by
  by_cases h : 0 < l.length
  · exact contains_some A0 c0 l o B w hr h hlen hb
  · obtain rfl : l = [] := List.eq_nil_of_length_eq_zero (by omega)
    refine (contains_nil A0 c0 B w).mono ?_
    rintro e w' ⟨rfl, rfl⟩
    exact ⟨rfl, Below.refl _ _⟩
def RecPost (w : World) (r : List Od × Int) (e : Ending) (w' : World) : Prop := ∃ v0_ : Value, e = .returned (.tuple #[v0_, .int .i64 r.2]) ∧ Kd.R k24 24 w' w.heap.size (fun _ => True) v0_ r.1 ∧ Below w.heap.size w w'
set_option maxRecDepth 100000 in
set_option maxHeartbeats 2000000 in
theorem record_any (A0 : Option Addr) (c0 : Nat) (l0 : List Od) (o : Od) (w : World) (hr0 : Kd.C k24 w A0 l0.length l0) (hc0 : l0.length ≤ c0) :
    Calls Try.prog 12 #[.slice A0 l0.length c0, .agg #[.int .i64 o.f0, .string o.f1, .string o.f2, .int .i64 o.f3, .int .i64 o.f4, .int .i64 o.f5, .int .i64 o.f6, .bool o.f7]] w (RecPost w (recO l0 o)) := by
  have HC := Lib.hid hr0
  have HL := Lib.hid hc0
  clear hr0 hc0
  cases hv : valid l0 with
  | false =>
    have HVC := Lib.hid (fun (W : World) (hW : Below w.heap.size w W) => hv ▸ valid_any A0 c0 l0 W (Kd.C_below HC.out hW) HL.out)
    have HR := Lib.hid (show recO l0 o = ([], 1) from by unfold recO; rw [if_neg (fun h => by rw [hv] at h; cases h.1)])
    clear hv
    go_enter Try.func12, Try.ntmps12
    go_wp2_with (first | (go_at_call 14; refine (HVC.out _ (by repeat (first | exact Below.refl _ _ | apply below_alloc | apply pw_below_drewN))).mono ?_; rintro e w1 ⟨rfl, hb⟩; have HB := Lib.hid (below_step (below_alloc (Below.refl w.heap.size w) (.cells #[.int .i64 o.f0, .string o.f1, .string o.f2, .int .i64 o.f3, .int .i64 o.f4, .int .i64 o.f5, .int .i64 o.f6, .bool o.f7] 24)) hb); have HO := Lib.hid (blk_below (World.alloc_heap_new w (.cells #[.int .i64 o.f0, .string o.f1, .string o.f2, .int .i64 o.f3, .int .i64 o.f4, .int .i64 o.f5, .int .i64 o.f6, .bool o.f7] 24)) hb); obtain ⟨v0, v1, v2, v3, v4, v5, v6, v7⟩ := od_blk HO.out; have hs1 := hb.size; clear hb) | (go_at_call 20; refine (HF.out _).mono ?_; rintro e w2 ⟨rfl, hb⟩; have HB2 := Lib.hid (below_step HB.out hb); have HO2 := Lib.hid (blk_below HO.out hb); obtain ⟨v0, v1, v2, v3, v4, v5, v6, v7⟩ := od_blk HO2.out; clear hb) | go_in)
    go_ret2
    rw [HR.out]
    exact ⟨_, rfl, Kd.R_nil _ _ _ _ _, HB.out⟩
  | true =>
    have HVC := Lib.hid (fun (W : World) (hW : Below w.heap.size w W) => hv ▸ valid_any A0 c0 l0 W (Kd.C_below HC.out hW) HL.out)
    have hlen := ((valid_iff l0).1 hv).1
    cases hf : formedOk o with
    | false =>
      have HF := Lib.hid (formed_b hf)
      have HR := Lib.hid (show recO l0 o = ([], 1) from by unfold recO; rw [if_neg (fun h => by rw [hf] at h; cases h.2)])
      clear hv hf
      go_enter Try.func12, Try.ntmps12
      go_wp2_with (first | (go_at_call 14; refine (HVC.out _ (by repeat (first | exact Below.refl _ _ | apply below_alloc | apply pw_below_drewN))).mono ?_; rintro e w1 ⟨rfl, hb⟩; have HB := Lib.hid (below_step (below_alloc (Below.refl w.heap.size w) (.cells #[.int .i64 o.f0, .string o.f1, .string o.f2, .int .i64 o.f3, .int .i64 o.f4, .int .i64 o.f5, .int .i64 o.f6, .bool o.f7] 24)) hb); have HO := Lib.hid (blk_below (World.alloc_heap_new w (.cells #[.int .i64 o.f0, .string o.f1, .string o.f2, .int .i64 o.f3, .int .i64 o.f4, .int .i64 o.f5, .int .i64 o.f6, .bool o.f7] 24)) hb); obtain ⟨v0, v1, v2, v3, v4, v5, v6, v7⟩ := od_blk HO.out; have hs1 := hb.size; clear hb) | (go_at_call 20; refine (HF.out _).mono ?_; rintro e w2 ⟨rfl, hb⟩; have HB2 := Lib.hid (below_step HB.out hb); have HO2 := Lib.hid (blk_below HO.out hb); obtain ⟨v0, v1, v2, v3, v4, v5, v6, v7⟩ := od_blk HO2.out; clear hb) | go_in)
      go_ret2
      rw [HR.out]
      exact ⟨_, rfl, Kd.R_nil _ _ _ _ _, HB2.out⟩
    | true =>
      have HF := Lib.hid (formed_b hf)
      have hR1 : recO l0 o = (if lastLe l0 o = true then (if sameParties l0 o = true then (if valid (l0 ++ [o]) = true then (l0 ++ [o], 0) else ([], 2)) else ([], 311)) else ([], 6)) := by unfold recO; rw [if_pos ⟨hv, hf⟩]
      have HR1 := Lib.hid hR1
      clear hv hf hR1
      go_enter Try.func12, Try.ntmps12
      go_wp2_with (first | (go_at_call 14; refine (HVC.out _ (by repeat (first | exact Below.refl _ _ | apply below_alloc | apply pw_below_drewN))).mono ?_; rintro e w1 ⟨rfl, hb⟩; have HB := Lib.hid (below_step (below_alloc (Below.refl w.heap.size w) (.cells #[.int .i64 o.f0, .string o.f1, .string o.f2, .int .i64 o.f3, .int .i64 o.f4, .int .i64 o.f5, .int .i64 o.f6, .bool o.f7] 24)) hb); have HO := Lib.hid (blk_below (World.alloc_heap_new w (.cells #[.int .i64 o.f0, .string o.f1, .string o.f2, .int .i64 o.f3, .int .i64 o.f4, .int .i64 o.f5, .int .i64 o.f6, .bool o.f7] 24)) hb); obtain ⟨v0, v1, v2, v3, v4, v5, v6, v7⟩ := od_blk HO.out; have hs1 := hb.size; clear hb) | (go_at_call 20; refine (HF.out _).mono ?_; rintro e w2 ⟨rfl, hb⟩; have HB2 := Lib.hid (below_step HB.out hb); have HO2 := Lib.hid (blk_below HO.out hb); obtain ⟨v0, v1, v2, v3, v4, v5, v6, v7⟩ := od_blk HO2.out; clear hb) | go_in)
      have HCL := Lib.hid (fun (W : World) (hW : Below w.heap.size w W) => clone_od A0 c0 l0 W (Kd.C_below HC.out hW) HL.out (by omega))
      by_cases h0 : l0.length = 0
      · have z0 : decide (0 < l0.length) = false := decide_eq_false (by omega)
        have HLL : Hid (lastLe l0 o = true) := Lib.hid (by rw [List.eq_nil_of_length_eq_zero h0]; rfl)
        clear h0
        go_quiet (fail)
        have HCF := Lib.hid (fun (n : Nat) => contains_any A0 c0 l0 o w.heap.size (w2.drewN n) (Kd.C_below HC.out (pw_below_drewN HB2.out n)) (by omega) (blk_drewN HO2.out n))
        cases hsp : sameParties l0 o with
        | false =>
          have HR := Lib.hid (show recO l0 o = ([], 311) from by rw [HR1.out, if_pos HLL.out, if_neg (by rw [hsp]; simp)])
          have HSP := Lib.hid hsp
          clear hsp
          go_wp2_with fail
          refine (HCF.out _).mono ?_
          rintro e w3 ⟨rfl, hb⟩
          have HB3 := Lib.hid (below_step (pw_below_drewN HB2.out _) hb)
          rw [HSP.out]
          clear hb
          go_wp2_with fail
          go_ret2
          rw [HR.out]
          exact ⟨_, rfl, Kd.R_nil _ _ _ _ _, HB3.out⟩
        | true =>
          have HR3 := Lib.hid (show recO l0 o = (if valid (l0 ++ [o]) = true then (l0 ++ [o], 0) else ([], 2)) from by rw [HR1.out, if_pos HLL.out, if_pos hsp])
          have HSP := Lib.hid hsp
          clear hsp
          go_wp2_with fail
          refine (HCF.out _).mono ?_
          rintro e w3 ⟨rfl, hb⟩
          have H3 := Lib.hid (And.intro (blk_below (blk_drewN HO2.out _) hb) (below_step (pw_below_drewN HB2.out _) hb))
          rw [HSP.out]
          clear hb
          go_wp2_with fail
          refine start_ (n := 6) (S := fun W => W.heap[w.heap.size]? = some (.cells #[.int .i64 o.f0, .string o.f1, .string o.f2, .int .i64 o.f3, .int .i64 o.f4, .int .i64 o.f5, .int .i64 o.f6, .bool o.f7] 24 (0, 0)) ∧ Below w.heap.size w W) (ds := [4]) #[false, false, false, false, false, false] (by kernel_rfl) rfl rfl ⟨blk_drew H3.out.1, below_drew1 H3.out.2⟩ (fun hHeld => ?_)
          clear v0 v1 v2 v3 v4 v5 v6 v7
          generalize w3.drew = w4 at hHeld ⊢
          refine pure_ (i := 0) (N := (some 34)) (v := ?_) (a' := ?_) #[true, false, false, false, false, false] rfl rfl (by kernel_rfl) (fun _ _ _ h => h) (Or.inl ⟨by rfl, ?_⟩) ?_ ?_
          rotate_left
          · intro w'
            go_simp
            with_reducible rfl
          rotate_left
          · simp only [Act.put, List.setIfInBounds_toArray, List.set_cons_zero, List.set_cons_succ, i64_w, i32_w]
            rfl
          refine take_ (i := 2) (N := (some 36)) (v := ?_) (a' := ?_) #[true, false, true, false, false, false] rfl rfl (by kernel_rfl) (fun _ _ _ h => h) (Or.inl ⟨by rfl, ?_⟩) hHeld ?_ ?_
          rotate_left
          · rintro w' ⟨s, -⟩
            obtain ⟨c0, c1, c2, c3, c4, c5, c6, c7⟩ := od_blk s
            clear s
            go_simp
            with_reducible rfl
          rotate_left
          · simp only [Act.put, List.setIfInBounds_toArray, List.set_cons_zero, List.set_cons_succ, i64_w, i32_w]
            rfl
          refine two_ (i := 1) (j := 3) (Ni := some 35) (Nj := some 37) #[true, true, true, false, false, false] #[true, false, true, true, false, false] rfl rfl rfl rfl (by kernel_rfl) (by decide) (by decide) (fun K hK => ?_) (fun K hK => ?_)
          · refine goes_ Try.func23 (by kernel_rfl) rfl #[.slice A0 l0.length c0] (by rfl) rfl rfl (by (try simp only [List.map_toArray, List.map_cons, List.map_nil]); first | done | rfl) ?_
            with_reducible refine (HCL.out _ hHeld.2).mono ?_
            rintro e w5 ⟨v1, rfl, hR, hb⟩
            have H1 := Lib.hid (And.intro (Kd.R_lower hR hHeld.2.size) (And.intro (blk_below hHeld.1 hb) (below_step hHeld.2 hb)))
            clear hR hb
            refine ⟨_, rfl, ?_⟩
            refine hK.out _ _ H1.out.2 (fun hHeld => ?_)
            clear hK K
            refine norm_ (a' := ?_) ?_ ?_
            rotate_left
            · show Act.put _ (some 35) _ = _
              simp only [Act.put, List.setIfInBounds_toArray, List.set_cons_zero, List.set_cons_succ, i64_w, i32_w]
              rfl
            refine one_ (i := 3) (N := some 37) #[true, true, true, true, false, false] rfl rfl (by kernel_rfl) (by decide) (fun K hK => ?_)
            refine Kd.R_lit_step k24 _ 24 ?hg (N := 37) ?hd (xs := [o]) (inner := [.int .i64 o.f0, .string o.f1, .string o.f2, .int .i64 o.f3, .int .i64 o.f4, .int .i64 o.f5, .int .i64 o.f6, .bool o.f7]) (ok := fun _ => True) (okp := fun _ => True) ?hr ?hp (fun _ hk => hk) trivial (Below.refl _ _) (Nat.le_refl _) (by simp) ?_
            case hd => rfl
            case hg => rfl
            case hr => first | (go_simp; done) | (go_simp; rfl)
            case hp => exact (Reps.c8 (show Kd.M k24 _ _ _ o [.int .i64 o.f0, .string o.f1, .string o.f2, .int .i64 o.f3, .int .i64 o.f4, .int .i64 o.f5, .int .i64 o.f6, .bool o.f7] from (k24_mkM _ _ _ o)) (Reps.none _ _))
            intro v2 w6 hR2 hb2 hg2 hat2
            have H2 := Lib.hid (And.intro (Kd.R_mono (ok' := fun k => some k ≠ v2.ownBlock) (Kd.R_elder' H1.out.1 (Kd.R_base hR2) hb2) (fun _ h => h.2)) (And.intro (Kd.R_lower hR2 H1.out.2.2.size) (And.intro (blk_below H1.out.2.1 hb2) (below_step H1.out.2.2 hb2))))
            clear hR2 hb2 hg2 hat2 H1
            refine hK.out _ _ H2.out.2.2 (fun hHeld => ?_)
            clear hK K hHeld
            refine norm_ (a' := ?_) ?_ ?_
            rotate_left
            · show Act.put _ (some 37) _ = _
              simp only [Act.put, List.setIfInBounds_toArray, List.set_cons_zero, List.set_cons_succ, i64_w, i32_w]
              rfl
            obtain ⟨A2, c2, e2⟩ := Kd.R_slice H2.out.2.1
            subst e2
            have HQ := Lib.hid (And.intro H2.out.1 (And.intro H2.out.2.1 H2.out.2.2.2))
            refine last_ (i := 4) (N := some 38) #[true, true, true, true, true, false] rfl rfl (by kernel_rfl) (by decide) (fun K hK => ?_)
            refine Kd.R_append_rows_step k24 (w0 := w) w.heap.size (by rfl) (.tmp 35) (.tmp 37) 22 24 (.agg #[(.int .i64 0), (.string ⟨#[]⟩), (.string ⟨#[]⟩), (.int .i64 0), (.int .i64 0), (.int .i64 0), (.int .i64 0), (.bool false)]) 80 rfl Try.underlying22 info24 rfl (by decide) (by omega) v1 l0 [o] _ _ _ (fun k_ => some k_ ≠ (.slice A2 [o].length c2 : Value).ownBlock) (fun _ => False) rfl rfl HQ.out.1 (Kd.R_reads' HQ.out.2.1).2.2 (fun _ _ h => h) (fun _ h => h.elim) (Kd.fresh' (Kd.R_lt HQ.out.2.1)) HQ.out.2.2 HQ.out.2.2.size (by simp only [List.length_cons, List.length_nil]; omega) ?_
            intro v3 w5 hR3 hb3 hg3 hat3
            have HN := Lib.hid (And.intro (Kd.R_mono (ok' := fun _ => True) hR3 (fun _ _ => trivial)) hb3)
            clear hR3 hb3 hg3 hat3
            refine hK.out _ _ ?_
            clear hK K
            refine norm_ (a' := ?_) ?_ ?_
            rotate_left
            · show Act.put _ (some 38) _ = _
              simp only [Act.put, List.setIfInBounds_toArray, List.set_cons_zero, List.set_cons_succ, i64_w, i32_w]
              rfl
            refine pure_ (i := 5) (N := (some 7)) (v := ?_) (a' := ?_) #[true, true, true, true, true, true] rfl rfl (by kernel_rfl) (fun _ _ _ h => h) (Or.inl ⟨by rfl, ?_⟩) ?_ ?_
            rotate_left
            · intro w'
              go_simp
              with_reducible rfl
            rotate_left
            · simp only [Act.put, List.setIfInBounds_toArray, List.set_cons_zero, List.set_cons_succ, i64_w, i32_w]
              rfl
            refine done_ (by kernel_rfl) ?_
            obtain ⟨A3, c3, e3⟩ := Kd.R_slice HN.out.1
            subst e3
            generalize hL : l0 ++ [o] = L at *
            have HLL2 := Lib.hid hL
            clear hL
            have HV2 := Lib.hid (fun (b : Bool) (hb : valid L = b) => hb ▸ valid_any A3 c3 L w5 (Kd.R_reads' HN.out.1).2.2 (Kd.R_reads' HN.out.1).2.1)
            cases hvo : valid L with
            | true =>
              have HV3 := Lib.hid (HV2.out _ hvo)
              have HRR := Lib.hid (show recO l0 o = (L, 0) from by rw [HR3.out, if_pos hvo])
              clear hvo
              go_wp2_with fail
              ((with_reducible refine HV3.out.mono ?_); skip)
              rintro e w6 ⟨rfl, hb⟩
              have HN2 := Lib.hid (And.intro (Kd.R_below HN.out.1 hb) (below_step HN.out.2 hb))
              clear hb
              go_wp2_with fail
              go_ret2
              rw [HRR.out]
              exact ⟨_, rfl, HN2.out.1, HN2.out.2⟩
            | false =>
              have HV3 := Lib.hid (HV2.out _ hvo)
              have HRR := Lib.hid (show recO l0 o = ([], 2) from by rw [HR3.out, if_neg (by rw [hvo]; simp)])
              clear hvo
              go_wp2_with fail
              ((with_reducible refine HV3.out.mono ?_); skip)
              rintro e w6 ⟨rfl, hb⟩
              have HN2 := Lib.hid (below_step HN.out.2 hb)
              clear hb
              go_wp2_with fail
              go_ret2
              rw [HRR.out]
              exact ⟨_, rfl, Kd.R_nil _ _ _ _ _, HN2.out⟩
          · refine Kd.R_lit_step k24 _ 24 ?hg (N := 37) ?hd (xs := [o]) (inner := [.int .i64 o.f0, .string o.f1, .string o.f2, .int .i64 o.f3, .int .i64 o.f4, .int .i64 o.f5, .int .i64 o.f6, .bool o.f7]) (ok := fun _ => True) (okp := fun _ => True) ?hr ?hp (fun _ hk => hk) trivial (Below.refl _ _) (Nat.le_refl _) (by simp) ?_
            case hd => rfl
            case hg => rfl
            case hr => first | (go_simp; done) | (go_simp; rfl)
            case hp => exact (Reps.c8 (show Kd.M k24 _ _ _ o [.int .i64 o.f0, .string o.f1, .string o.f2, .int .i64 o.f3, .int .i64 o.f4, .int .i64 o.f5, .int .i64 o.f6, .bool o.f7] from (k24_mkM _ _ _ o)) (Reps.none _ _))
            intro v2 w5 hR2 hb2 hg2 hat2
            have H1 := Lib.hid (And.intro hR2 (And.intro (blk_below hHeld.1 hb2) (And.intro (below_step hHeld.2 hb2) (And.intro hHeld.2.size hb2.size))))
            clear hR2 hb2 hg2 hat2
            refine hK.out _ _ ⟨H1.out.2.1, H1.out.2.2.1⟩ (fun hHeld => ?_)
            clear hK K
            refine norm_ (a' := ?_) ?_ ?_
            rotate_left
            · show Act.put _ (some 37) _ = _
              simp only [Act.put, List.setIfInBounds_toArray, List.set_cons_zero, List.set_cons_succ, i64_w, i32_w]
              rfl
            refine one_ (i := 1) (N := some 35) #[true, true, true, true, false, false] rfl rfl (by kernel_rfl) (by decide) (fun K hK => ?_)
            refine goes_ Try.func23 (by kernel_rfl) rfl #[.slice A0 l0.length c0] (by rfl) rfl rfl (by (try simp only [List.map_toArray, List.map_cons, List.map_nil]); first | done | rfl) ?_
            with_reducible refine (HCL.out _ hHeld.2).mono ?_
            rintro e w6 ⟨v1, rfl, hR, hb⟩
            have H2 := Lib.hid (And.intro (Kd.R_lower (Kd.R_mono (ok' := fun k => some k ≠ v2.ownBlock) (Kd.R_new' hR (Kd.R_lt H1.out.1)) (fun _ h => h.2)) hHeld.2.size) (And.intro (Kd.R_lower (Kd.R_below H1.out.1 hb) H1.out.2.2.2.1) (And.intro (blk_below H1.out.2.1 hb) (below_step H1.out.2.2.1 hb))))
            clear hR hb H1 hHeld
            refine ⟨_, rfl, ?_⟩
            refine hK.out _ _ H2.out.2.2 (fun hHeld => ?_)
            clear hK K hHeld
            refine norm_ (a' := ?_) ?_ ?_
            rotate_left
            · show Act.put _ (some 35) _ = _
              simp only [Act.put, List.setIfInBounds_toArray, List.set_cons_zero, List.set_cons_succ, i64_w, i32_w]
              rfl
            obtain ⟨A2, c2, e2⟩ := Kd.R_slice H2.out.2.1
            subst e2
            have HQ := Lib.hid (And.intro H2.out.1 (And.intro H2.out.2.1 H2.out.2.2.2))
            refine last_ (i := 4) (N := some 38) #[true, true, true, true, true, false] rfl rfl (by kernel_rfl) (by decide) (fun K hK => ?_)
            refine Kd.R_append_rows_step k24 (w0 := w) w.heap.size (by rfl) (.tmp 35) (.tmp 37) 22 24 (.agg #[(.int .i64 0), (.string ⟨#[]⟩), (.string ⟨#[]⟩), (.int .i64 0), (.int .i64 0), (.int .i64 0), (.int .i64 0), (.bool false)]) 80 rfl Try.underlying22 info24 rfl (by decide) (by omega) v1 l0 [o] _ _ _ (fun k_ => some k_ ≠ (.slice A2 [o].length c2 : Value).ownBlock) (fun _ => False) rfl rfl HQ.out.1 (Kd.R_reads' HQ.out.2.1).2.2 (fun _ _ h => h) (fun _ h => h.elim) (Kd.fresh' (Kd.R_lt HQ.out.2.1)) HQ.out.2.2 HQ.out.2.2.size (by simp only [List.length_cons, List.length_nil]; omega) ?_
            intro v3 w5 hR3 hb3 hg3 hat3
            have HN := Lib.hid (And.intro (Kd.R_mono (ok' := fun _ => True) hR3 (fun _ _ => trivial)) hb3)
            clear hR3 hb3 hg3 hat3
            refine hK.out _ _ ?_
            clear hK K
            refine norm_ (a' := ?_) ?_ ?_
            rotate_left
            · show Act.put _ (some 38) _ = _
              simp only [Act.put, List.setIfInBounds_toArray, List.set_cons_zero, List.set_cons_succ, i64_w, i32_w]
              rfl
            refine pure_ (i := 5) (N := (some 7)) (v := ?_) (a' := ?_) #[true, true, true, true, true, true] rfl rfl (by kernel_rfl) (fun _ _ _ h => h) (Or.inl ⟨by rfl, ?_⟩) ?_ ?_
            rotate_left
            · intro w'
              go_simp
              with_reducible rfl
            rotate_left
            · simp only [Act.put, List.setIfInBounds_toArray, List.set_cons_zero, List.set_cons_succ, i64_w, i32_w]
              rfl
            refine done_ (by kernel_rfl) ?_
            obtain ⟨A3, c3, e3⟩ := Kd.R_slice HN.out.1
            subst e3
            generalize hL : l0 ++ [o] = L at *
            have HLL2 := Lib.hid hL
            clear hL
            have HV2 := Lib.hid (fun (b : Bool) (hb : valid L = b) => hb ▸ valid_any A3 c3 L w5 (Kd.R_reads' HN.out.1).2.2 (Kd.R_reads' HN.out.1).2.1)
            cases hvo : valid L with
            | true =>
              have HV3 := Lib.hid (HV2.out _ hvo)
              have HRR := Lib.hid (show recO l0 o = (L, 0) from by rw [HR3.out, if_pos hvo])
              clear hvo
              go_wp2_with fail
              ((with_reducible refine HV3.out.mono ?_); skip)
              rintro e w6 ⟨rfl, hb⟩
              have HN2 := Lib.hid (And.intro (Kd.R_below HN.out.1 hb) (below_step HN.out.2 hb))
              clear hb
              go_wp2_with fail
              go_ret2
              rw [HRR.out]
              exact ⟨_, rfl, HN2.out.1, HN2.out.2⟩
            | false =>
              have HV3 := Lib.hid (HV2.out _ hvo)
              have HRR := Lib.hid (show recO l0 o = ([], 2) from by rw [HR3.out, if_neg (by rw [hvo]; simp)])
              clear hvo
              go_wp2_with fail
              ((with_reducible refine HV3.out.mono ?_); skip)
              rintro e w6 ⟨rfl, hb⟩
              have HN2 := Lib.hid (below_step HN.out.2 hb)
              clear hb
              go_wp2_with fail
              go_ret2
              rw [HRR.out]
              exact ⟨_, rfl, Kd.R_nil _ _ _ _ _, HN2.out⟩
      · have z0 : decide (0 < l0.length) = true := decide_eq_true (by omega)
        have hk1 : l0.length - 1 < l0.length := by omega
        obtain ⟨ad, rfl, q0, q1, q2, q3, q4, q5, q6, q7⟩ := od_cells (Kd.C_below HC.out HB2.out) hk1
        have hlast := last_le (o := o) (show 0 < l0.length by omega)
        generalize odAt l0 (l0.length - 1) = q at *
        have HLA := Lib.hid hlast
        have z1 : (0 : Int) ≤ (l0.length : Int) - 1 := by omega
        have z2 : (l0.length : Int) - 1 < (l0.length : Int) := by omega
        have z6 : (1 : Int) ≤ (l0.length : Int) := by omega
        have z3 : ((l0.length : Int) - 1).toNat = l0.length - 1 := by omega
        have z4 : IntKind.i64.wrap ((l0.length : Int) - 1) = (l0.length : Int) - 1 := IntWalk.i64_in _ (by omega)
        clear hlast q0 q1 q2 q3 q5 q6 q7 hk1 h0
        by_cases hle : q.f4 ≤ o.f4
        · have z5 : decide (o.f4 < q.f4) = false := decide_eq_false (by omega)
          have HLL := Lib.hid (show lastLe l0 o = true from by rw [HLA.out]; exact decide_eq_true hle)
          clear hle
          go_quiet (fail)
          clear z1 z2 z3 z4 z5 z6 q4
          have HCF := Lib.hid (fun (n : Nat) => contains_any (some ad) c0 l0 o w.heap.size (w2.drewN n) (Kd.C_below HC.out (pw_below_drewN HB2.out n)) (by omega) (blk_drewN HO2.out n))
          cases hsp : sameParties l0 o with
          | false =>
            have HR := Lib.hid (show recO l0 o = ([], 311) from by rw [HR1.out, if_pos HLL.out, if_neg (by rw [hsp]; simp)])
            have HSP := Lib.hid hsp
            clear hsp
            go_wp2_with fail
            refine (HCF.out _).mono ?_
            rintro e w3 ⟨rfl, hb⟩
            have HB3 := Lib.hid (below_step (pw_below_drewN HB2.out _) hb)
            rw [HSP.out]
            clear hb
            go_wp2_with fail
            go_ret2
            rw [HR.out]
            exact ⟨_, rfl, Kd.R_nil _ _ _ _ _, HB3.out⟩
          | true =>
            have HR3 := Lib.hid (show recO l0 o = (if valid (l0 ++ [o]) = true then (l0 ++ [o], 0) else ([], 2)) from by rw [HR1.out, if_pos HLL.out, if_pos hsp])
            have HSP := Lib.hid hsp
            clear hsp
            go_wp2_with fail
            refine (HCF.out _).mono ?_
            rintro e w3 ⟨rfl, hb⟩
            have H3 := Lib.hid (And.intro (blk_below (blk_drewN HO2.out _) hb) (below_step (pw_below_drewN HB2.out _) hb))
            rw [HSP.out]
            clear hb
            go_wp2_with fail
            refine start_ (n := 6) (S := fun W => W.heap[w.heap.size]? = some (.cells #[.int .i64 o.f0, .string o.f1, .string o.f2, .int .i64 o.f3, .int .i64 o.f4, .int .i64 o.f5, .int .i64 o.f6, .bool o.f7] 24 (0, 0)) ∧ Below w.heap.size w W) (ds := [4]) #[false, false, false, false, false, false] (by kernel_rfl) rfl rfl ⟨blk_drew H3.out.1, below_drew1 H3.out.2⟩ (fun hHeld => ?_)
            clear v0 v1 v2 v3 v4 v5 v6 v7
            generalize w3.drew = w4 at hHeld ⊢
            refine pure_ (i := 0) (N := (some 34)) (v := ?_) (a' := ?_) #[true, false, false, false, false, false] rfl rfl (by kernel_rfl) (fun _ _ _ h => h) (Or.inl ⟨by rfl, ?_⟩) ?_ ?_
            rotate_left
            · intro w'
              go_simp
              with_reducible rfl
            rotate_left
            · simp only [Act.put, List.setIfInBounds_toArray, List.set_cons_zero, List.set_cons_succ, i64_w, i32_w]
              rfl
            refine take_ (i := 2) (N := (some 36)) (v := ?_) (a' := ?_) #[true, false, true, false, false, false] rfl rfl (by kernel_rfl) (fun _ _ _ h => h) (Or.inl ⟨by rfl, ?_⟩) hHeld ?_ ?_
            rotate_left
            · rintro w' ⟨s, -⟩
              obtain ⟨c0, c1, c2, c3, c4, c5, c6, c7⟩ := od_blk s
              clear s
              go_simp
              with_reducible rfl
            rotate_left
            · simp only [Act.put, List.setIfInBounds_toArray, List.set_cons_zero, List.set_cons_succ, i64_w, i32_w]
              rfl
            refine two_ (i := 1) (j := 3) (Ni := some 35) (Nj := some 37) #[true, true, true, false, false, false] #[true, false, true, true, false, false] rfl rfl rfl rfl (by kernel_rfl) (by decide) (by decide) (fun K hK => ?_) (fun K hK => ?_)
            · refine goes_ Try.func23 (by kernel_rfl) rfl #[.slice (some ad) l0.length c0] (by rfl) rfl rfl (by (try simp only [List.map_toArray, List.map_cons, List.map_nil]); first | done | rfl) ?_
              with_reducible refine (HCL.out _ hHeld.2).mono ?_
              rintro e w5 ⟨v1, rfl, hR, hb⟩
              have H1 := Lib.hid (And.intro (Kd.R_lower hR hHeld.2.size) (And.intro (blk_below hHeld.1 hb) (below_step hHeld.2 hb)))
              clear hR hb
              refine ⟨_, rfl, ?_⟩
              refine hK.out _ _ H1.out.2 (fun hHeld => ?_)
              clear hK K
              refine norm_ (a' := ?_) ?_ ?_
              rotate_left
              · show Act.put _ (some 35) _ = _
                simp only [Act.put, List.setIfInBounds_toArray, List.set_cons_zero, List.set_cons_succ, i64_w, i32_w]
                rfl
              refine one_ (i := 3) (N := some 37) #[true, true, true, true, false, false] rfl rfl (by kernel_rfl) (by decide) (fun K hK => ?_)
              refine Kd.R_lit_step k24 _ 24 ?hg (N := 37) ?hd (xs := [o]) (inner := [.int .i64 o.f0, .string o.f1, .string o.f2, .int .i64 o.f3, .int .i64 o.f4, .int .i64 o.f5, .int .i64 o.f6, .bool o.f7]) (ok := fun _ => True) (okp := fun _ => True) ?hr ?hp (fun _ hk => hk) trivial (Below.refl _ _) (Nat.le_refl _) (by simp) ?_
              case hd => rfl
              case hg => rfl
              case hr => first | (go_simp; done) | (go_simp; rfl)
              case hp => exact (Reps.c8 (show Kd.M k24 _ _ _ o [.int .i64 o.f0, .string o.f1, .string o.f2, .int .i64 o.f3, .int .i64 o.f4, .int .i64 o.f5, .int .i64 o.f6, .bool o.f7] from (k24_mkM _ _ _ o)) (Reps.none _ _))
              intro v2 w6 hR2 hb2 hg2 hat2
              have H2 := Lib.hid (And.intro (Kd.R_mono (ok' := fun k => some k ≠ v2.ownBlock) (Kd.R_elder' H1.out.1 (Kd.R_base hR2) hb2) (fun _ h => h.2)) (And.intro (Kd.R_lower hR2 H1.out.2.2.size) (And.intro (blk_below H1.out.2.1 hb2) (below_step H1.out.2.2 hb2))))
              clear hR2 hb2 hg2 hat2 H1
              refine hK.out _ _ H2.out.2.2 (fun hHeld => ?_)
              clear hK K hHeld
              refine norm_ (a' := ?_) ?_ ?_
              rotate_left
              · show Act.put _ (some 37) _ = _
                simp only [Act.put, List.setIfInBounds_toArray, List.set_cons_zero, List.set_cons_succ, i64_w, i32_w]
                rfl
              obtain ⟨A2, c2, e2⟩ := Kd.R_slice H2.out.2.1
              subst e2
              have HQ := Lib.hid (And.intro H2.out.1 (And.intro H2.out.2.1 H2.out.2.2.2))
              refine last_ (i := 4) (N := some 38) #[true, true, true, true, true, false] rfl rfl (by kernel_rfl) (by decide) (fun K hK => ?_)
              refine Kd.R_append_rows_step k24 (w0 := w) w.heap.size (by rfl) (.tmp 35) (.tmp 37) 22 24 (.agg #[(.int .i64 0), (.string ⟨#[]⟩), (.string ⟨#[]⟩), (.int .i64 0), (.int .i64 0), (.int .i64 0), (.int .i64 0), (.bool false)]) 80 rfl Try.underlying22 info24 rfl (by decide) (by omega) v1 l0 [o] _ _ _ (fun k_ => some k_ ≠ (.slice A2 [o].length c2 : Value).ownBlock) (fun _ => False) rfl rfl HQ.out.1 (Kd.R_reads' HQ.out.2.1).2.2 (fun _ _ h => h) (fun _ h => h.elim) (Kd.fresh' (Kd.R_lt HQ.out.2.1)) HQ.out.2.2 HQ.out.2.2.size (by simp only [List.length_cons, List.length_nil]; omega) ?_
              intro v3 w5 hR3 hb3 hg3 hat3
              have HN := Lib.hid (And.intro (Kd.R_mono (ok' := fun _ => True) hR3 (fun _ _ => trivial)) hb3)
              clear hR3 hb3 hg3 hat3
              refine hK.out _ _ ?_
              clear hK K
              refine norm_ (a' := ?_) ?_ ?_
              rotate_left
              · show Act.put _ (some 38) _ = _
                simp only [Act.put, List.setIfInBounds_toArray, List.set_cons_zero, List.set_cons_succ, i64_w, i32_w]
                rfl
              refine pure_ (i := 5) (N := (some 7)) (v := ?_) (a' := ?_) #[true, true, true, true, true, true] rfl rfl (by kernel_rfl) (fun _ _ _ h => h) (Or.inl ⟨by rfl, ?_⟩) ?_ ?_
              rotate_left
              · intro w'
                go_simp
                with_reducible rfl
              rotate_left
              · simp only [Act.put, List.setIfInBounds_toArray, List.set_cons_zero, List.set_cons_succ, i64_w, i32_w]
                rfl
              refine done_ (by kernel_rfl) ?_
              obtain ⟨A3, c3, e3⟩ := Kd.R_slice HN.out.1
              subst e3
              generalize hL : l0 ++ [o] = L at *
              have HLL2 := Lib.hid hL
              clear hL
              have HV2 := Lib.hid (fun (b : Bool) (hb : valid L = b) => hb ▸ valid_any A3 c3 L w5 (Kd.R_reads' HN.out.1).2.2 (Kd.R_reads' HN.out.1).2.1)
              cases hvo : valid L with
              | true =>
                have HV3 := Lib.hid (HV2.out _ hvo)
                have HRR := Lib.hid (show recO l0 o = (L, 0) from by rw [HR3.out, if_pos hvo])
                clear hvo
                go_wp2_with fail
                ((with_reducible refine HV3.out.mono ?_); skip)
                rintro e w6 ⟨rfl, hb⟩
                have HN2 := Lib.hid (And.intro (Kd.R_below HN.out.1 hb) (below_step HN.out.2 hb))
                clear hb
                go_wp2_with fail
                go_ret2
                rw [HRR.out]
                exact ⟨_, rfl, HN2.out.1, HN2.out.2⟩
              | false =>
                have HV3 := Lib.hid (HV2.out _ hvo)
                have HRR := Lib.hid (show recO l0 o = ([], 2) from by rw [HR3.out, if_neg (by rw [hvo]; simp)])
                clear hvo
                go_wp2_with fail
                ((with_reducible refine HV3.out.mono ?_); skip)
                rintro e w6 ⟨rfl, hb⟩
                have HN2 := Lib.hid (below_step HN.out.2 hb)
                clear hb
                go_wp2_with fail
                go_ret2
                rw [HRR.out]
                exact ⟨_, rfl, Kd.R_nil _ _ _ _ _, HN2.out⟩
            · refine Kd.R_lit_step k24 _ 24 ?hg (N := 37) ?hd (xs := [o]) (inner := [.int .i64 o.f0, .string o.f1, .string o.f2, .int .i64 o.f3, .int .i64 o.f4, .int .i64 o.f5, .int .i64 o.f6, .bool o.f7]) (ok := fun _ => True) (okp := fun _ => True) ?hr ?hp (fun _ hk => hk) trivial (Below.refl _ _) (Nat.le_refl _) (by simp) ?_
              case hd => rfl
              case hg => rfl
              case hr => first | (go_simp; done) | (go_simp; rfl)
              case hp => exact (Reps.c8 (show Kd.M k24 _ _ _ o [.int .i64 o.f0, .string o.f1, .string o.f2, .int .i64 o.f3, .int .i64 o.f4, .int .i64 o.f5, .int .i64 o.f6, .bool o.f7] from (k24_mkM _ _ _ o)) (Reps.none _ _))
              intro v2 w5 hR2 hb2 hg2 hat2
              have H1 := Lib.hid (And.intro hR2 (And.intro (blk_below hHeld.1 hb2) (And.intro (below_step hHeld.2 hb2) (And.intro hHeld.2.size hb2.size))))
              clear hR2 hb2 hg2 hat2
              refine hK.out _ _ ⟨H1.out.2.1, H1.out.2.2.1⟩ (fun hHeld => ?_)
              clear hK K
              refine norm_ (a' := ?_) ?_ ?_
              rotate_left
              · show Act.put _ (some 37) _ = _
                simp only [Act.put, List.setIfInBounds_toArray, List.set_cons_zero, List.set_cons_succ, i64_w, i32_w]
                rfl
              refine one_ (i := 1) (N := some 35) #[true, true, true, true, false, false] rfl rfl (by kernel_rfl) (by decide) (fun K hK => ?_)
              refine goes_ Try.func23 (by kernel_rfl) rfl #[.slice (some ad) l0.length c0] (by rfl) rfl rfl (by (try simp only [List.map_toArray, List.map_cons, List.map_nil]); first | done | rfl) ?_
              with_reducible refine (HCL.out _ hHeld.2).mono ?_
              rintro e w6 ⟨v1, rfl, hR, hb⟩
              have H2 := Lib.hid (And.intro (Kd.R_lower (Kd.R_mono (ok' := fun k => some k ≠ v2.ownBlock) (Kd.R_new' hR (Kd.R_lt H1.out.1)) (fun _ h => h.2)) hHeld.2.size) (And.intro (Kd.R_lower (Kd.R_below H1.out.1 hb) H1.out.2.2.2.1) (And.intro (blk_below H1.out.2.1 hb) (below_step H1.out.2.2.1 hb))))
              clear hR hb H1 hHeld
              refine ⟨_, rfl, ?_⟩
              refine hK.out _ _ H2.out.2.2 (fun hHeld => ?_)
              clear hK K hHeld
              refine norm_ (a' := ?_) ?_ ?_
              rotate_left
              · show Act.put _ (some 35) _ = _
                simp only [Act.put, List.setIfInBounds_toArray, List.set_cons_zero, List.set_cons_succ, i64_w, i32_w]
                rfl
              obtain ⟨A2, c2, e2⟩ := Kd.R_slice H2.out.2.1
              subst e2
              have HQ := Lib.hid (And.intro H2.out.1 (And.intro H2.out.2.1 H2.out.2.2.2))
              refine last_ (i := 4) (N := some 38) #[true, true, true, true, true, false] rfl rfl (by kernel_rfl) (by decide) (fun K hK => ?_)
              refine Kd.R_append_rows_step k24 (w0 := w) w.heap.size (by rfl) (.tmp 35) (.tmp 37) 22 24 (.agg #[(.int .i64 0), (.string ⟨#[]⟩), (.string ⟨#[]⟩), (.int .i64 0), (.int .i64 0), (.int .i64 0), (.int .i64 0), (.bool false)]) 80 rfl Try.underlying22 info24 rfl (by decide) (by omega) v1 l0 [o] _ _ _ (fun k_ => some k_ ≠ (.slice A2 [o].length c2 : Value).ownBlock) (fun _ => False) rfl rfl HQ.out.1 (Kd.R_reads' HQ.out.2.1).2.2 (fun _ _ h => h) (fun _ h => h.elim) (Kd.fresh' (Kd.R_lt HQ.out.2.1)) HQ.out.2.2 HQ.out.2.2.size (by simp only [List.length_cons, List.length_nil]; omega) ?_
              intro v3 w5 hR3 hb3 hg3 hat3
              have HN := Lib.hid (And.intro (Kd.R_mono (ok' := fun _ => True) hR3 (fun _ _ => trivial)) hb3)
              clear hR3 hb3 hg3 hat3
              refine hK.out _ _ ?_
              clear hK K
              refine norm_ (a' := ?_) ?_ ?_
              rotate_left
              · show Act.put _ (some 38) _ = _
                simp only [Act.put, List.setIfInBounds_toArray, List.set_cons_zero, List.set_cons_succ, i64_w, i32_w]
                rfl
              refine pure_ (i := 5) (N := (some 7)) (v := ?_) (a' := ?_) #[true, true, true, true, true, true] rfl rfl (by kernel_rfl) (fun _ _ _ h => h) (Or.inl ⟨by rfl, ?_⟩) ?_ ?_
              rotate_left
              · intro w'
                go_simp
                with_reducible rfl
              rotate_left
              · simp only [Act.put, List.setIfInBounds_toArray, List.set_cons_zero, List.set_cons_succ, i64_w, i32_w]
                rfl
              refine done_ (by kernel_rfl) ?_
              obtain ⟨A3, c3, e3⟩ := Kd.R_slice HN.out.1
              subst e3
              generalize hL : l0 ++ [o] = L at *
              have HLL2 := Lib.hid hL
              clear hL
              have HV2 := Lib.hid (fun (b : Bool) (hb : valid L = b) => hb ▸ valid_any A3 c3 L w5 (Kd.R_reads' HN.out.1).2.2 (Kd.R_reads' HN.out.1).2.1)
              cases hvo : valid L with
              | true =>
                have HV3 := Lib.hid (HV2.out _ hvo)
                have HRR := Lib.hid (show recO l0 o = (L, 0) from by rw [HR3.out, if_pos hvo])
                clear hvo
                go_wp2_with fail
                ((with_reducible refine HV3.out.mono ?_); skip)
                rintro e w6 ⟨rfl, hb⟩
                have HN2 := Lib.hid (And.intro (Kd.R_below HN.out.1 hb) (below_step HN.out.2 hb))
                clear hb
                go_wp2_with fail
                go_ret2
                rw [HRR.out]
                exact ⟨_, rfl, HN2.out.1, HN2.out.2⟩
              | false =>
                have HV3 := Lib.hid (HV2.out _ hvo)
                have HRR := Lib.hid (show recO l0 o = ([], 2) from by rw [HR3.out, if_neg (by rw [hvo]; simp)])
                clear hvo
                go_wp2_with fail
                ((with_reducible refine HV3.out.mono ?_); skip)
                rintro e w6 ⟨rfl, hb⟩
                have HN2 := Lib.hid (below_step HN.out.2 hb)
                clear hb
                go_wp2_with fail
                go_ret2
                rw [HRR.out]
                exact ⟨_, rfl, Kd.R_nil _ _ _ _ _, HN2.out⟩
        · have z5 : decide (o.f4 < q.f4) = true := decide_eq_true (by omega)
          have HR := Lib.hid (show recO l0 o = ([], 6) from by rw [HR1.out, if_neg (by rw [HLA.out]; simpa using hle)])
          clear hle
          go_quiet (fail)
          clear z1 z2 z3 z4 z5 z6 q4
          go_wp2_with fail
          go_ret2
          rw [HR.out]
          exact ⟨_, rfl, Kd.R_nil _ _ _ _ _, pw_below_drewN HB2.out _⟩
end Go.Proofs.Ytgbcihbnaecejaa.Q

namespace Go.Proofs.Ytgbcihbnaecejaa.Q
open Go Go.RowKit Go.Maps Go.Proofs.YtgbcihbnaecejaaW.PrintWords Go.Proofs.YtgbcihbnaecejaaW.PrintLast Go.Proofs.YtgbcihbnaecejaaW.PrintMore
set_option linter.unusedVariables false
set_option linter.unusedSimpArgs false
def gOf (L : List Od) (n : Int) : Option Value := (L.find? fun x => decide (x.f0 = n)).map odV
theorem gOf_step (acc : List Od) (o : Od) : gOf (acc.filter (fun x => decide (x.f0 ≠ o.f0)) ++ [o]) = putT (gOf acc) o.f0 (odV o) := by
  funext n
  unfold gOf
  rw [List.find?_append]
  by_cases e : n = o.f0
  · subst e
    rw [putT_same]
    have : (acc.filter (fun x => decide (x.f0 ≠ o.f0))).find? (fun x => decide (x.f0 = o.f0)) = none := by
      rw [List.find?_eq_none]
      intro x hx
      have := (List.mem_filter.1 hx).2
      simpa using this
    rw [this]
    simp
  · rw [putT_ne _ _ e]
    have h1 : (acc.filter (fun x => decide (x.f0 ≠ o.f0))).find? (fun x => decide (x.f0 = n)) = acc.find? (fun x => decide (x.f0 = n)) := by
      rw [List.find?_filter]
      congr 1
      funext x
      by_cases h : x.f0 = n
      · subst h; simp [e]
      · simp [h]
    rw [h1]
    cases acc.find? (fun x => decide (x.f0 = n)) with
    | some y => rfl
    | none =>
      have : ¬ o.f0 = n := fun h => e h.symm
      simp [this]
theorem gOf_some {L : List Od} {n : Int} {v : Value} (h : gOf L n = some v) : ∃ o ∈ L, o.f0 = n ∧ v = odV o := by
  unfold gOf at h
  rw [Option.map_eq_some_iff] at h
  obtain ⟨o, h1, rfl⟩ := h
  exact ⟨o, List.mem_of_find?_eq_some h1, by simpa using List.find?_some h1, rfl⟩
theorem gOf_isSome {L : List Od} {o : Od} (h : o ∈ L) : (gOf L o.f0).isSome = true := by
  unfold gOf
  rw [Option.isSome_map, List.find?_isSome]
  exact ⟨o, h, by simp⟩
theorem distinct_eq {C : List Od} (hd : C.Pairwise (fun a b => a.f0 ≠ b.f0)) {a b : Od} (ha : a ∈ C) (hb : b ∈ C) (h : a.f0 = b.f0) : a = b := by
  induction C with
  | nil => cases ha
  | cons c C ih =>
    obtain ⟨h1, h2⟩ := List.pairwise_cons.1 hd
    rcases List.mem_cons.1 ha with e1 | ha'
    · rcases List.mem_cons.1 hb with e2 | hb'
      · rw [e1, e2]
      · rw [e1] at h; exact absurd h (h1 b hb')
    · rcases List.mem_cons.1 hb with e2 | hb'
      · rw [e2] at h; exact absurd h.symm (h1 a ha')
      · exact ih h2 ha' hb'
def Coll (C : List Od) (p : Od → Bool) (seen : List Int) (out : List Od) : Prop := ∃ sO : List Od, sO.map (fun o => o.f0) = seen ∧ (∀ o ∈ sO, o ∈ C) ∧ out = sO.filter p
theorem Coll.nil (C : List Od) (p : Od → Bool) : Coll C p [] [] := ⟨[], rfl, by simp, rfl⟩
theorem Coll.hit {C : List Od} {p : Od → Bool} {seen : List Int} {out : List Od} (h : Coll C p seen out) {o : Od} (ho : o ∈ C) (hp : p o = true) : Coll C p (seen ++ [o.f0]) (out ++ [o]) := by
  obtain ⟨sO, rfl, h2, rfl⟩ := h
  refine ⟨sO ++ [o], by simp, fun x hx => ?_, by simp [hp]⟩
  rcases List.mem_append.1 hx with hx | hx
  · exact h2 x hx
  · rw [List.mem_singleton.1 hx]; exact ho
theorem Coll.miss {C : List Od} {p : Od → Bool} {seen : List Int} {out : List Od} (h : Coll C p seen out) {o : Od} (ho : o ∈ C) (hp : p o = false) : Coll C p (seen ++ [o.f0]) out := by
  obtain ⟨sO, rfl, h2, rfl⟩ := h
  refine ⟨sO ++ [o], by simp, fun x hx => ?_, by simp [hp]⟩
  rcases List.mem_append.1 hx with hx | hx
  · exact h2 x hx
  · rw [List.mem_singleton.1 hx]; exact ho
theorem Coll.perm {C : List Od} {p : Od → Bool} {seen : List Int} {out : List Od} (h : Coll C p seen out) (hd : C.Pairwise (fun a b => a.f0 ≠ b.f0)) (hn : seen.Nodup) (hall : ∀ o ∈ C, o.f0 ∈ seen) : out.Perm (C.filter p) := by
  obtain ⟨sO, rfl, h2, rfl⟩ := h
  refine List.Perm.filter p ?_
  have n1 : sO.Nodup := (List.pairwise_map.1 hn).imp (fun h e => h (by rw [e]))
  have n2 : C.Nodup := hd.imp (fun h e => h (by rw [e]))
  refine (List.perm_ext_iff_of_nodup n1 n2).2 fun o => ⟨h2 o, fun ho => ?_⟩
  obtain ⟨o', h3, h4⟩ := List.mem_map.1 (hall o ho)
  rwa [distinct_eq hd (h2 o' h3) ho h4] at h3
theorem nodup_len : ∀ (a b : List Int), a.Nodup → (∀ x ∈ a, x ∈ b) → a.length ≤ b.length
  | [], b, _, _ => Nat.zero_le _
  | x :: a, b, hn, hs => by
    obtain ⟨h1, h2⟩ := List.nodup_cons.1 hn
    have hx := hs x (List.mem_cons_self ..)
    have h3 := nodup_len a (b.erase x) h2 (fun y hy => by
      have hne : y ≠ x := fun e => h1 (e ▸ hy)
      exact (List.mem_erase_of_ne hne).2 (hs y (List.mem_cons_of_mem _ hy)))
    rw [List.length_erase_of_mem hx] at h3
    have := List.length_pos_of_mem hx
    simp only [List.length_cons]
    omega
theorem Coll.len {C : List Od} {p : Od → Bool} {seen : List Int} {out : List Od} (h : Coll C p seen out) (hn : seen.Nodup) : out.length ≤ C.length := by
  obtain ⟨sO, rfl, h2, rfl⟩ := h
  have h3 := nodup_len (sO.map fun o => o.f0) (C.map fun o => o.f0) hn (fun x hx => by
    obtain ⟨o, ho, rfl⟩ := List.mem_map.1 hx
    exact List.mem_map.2 ⟨o, h2 o ho, rfl⟩)
  rw [List.length_map, List.length_map] at h3
  exact Nat.le_trans (List.length_filter_le _ _) h3
theorem cur_len (q : ByteArray) (known : Int) (l : List Od) : (cur q known l).length ≤ l.length := by
  induction l using snocRec with
  | nil => simp [cur]
  | snoc l o ih =>
    rw [cur_snoc]
    unfold curStep
    have := List.length_filter_le (fun x : Od => decide (x.f0 ≠ o.f0)) (cur q known l)
    split <;> simp only [List.length_append, List.length_singleton] <;> omega
def orders_Open.f (l0 : List Od) (a1 : ByteArray) (a2 : Int) (a3 : Int) : Option (List Od) := some (openO l0 a1 a2 a3)
def OInv (l : List Od) (p : ByteArray) (kn : Int) (w w1 : World) (k : Nat) (wr : World) : Prop :=
  MapT Try.prog 3 okI litI wr w1.heap.size k (gOf (cur p kn (l.take k))) ∧ Below w1.heap.size w1 wr
def OInv2 (C : List Od) (month : Int) (w w1 : World) (r n : Nat) (v : Value) (wr : World) : Prop :=
  ∃ seen cnt out, RangeT Try.prog 3 okI litI wr w1.heap.size r n (gOf C) seen cnt ∧ Coll C (isOpen month) seen out ∧ wr.ownsRow (r + 1) 24 8 v out.length (out.flatMap odEnc) ∧ Below w1.heap.size w1 wr ∧ r < wr.heap.size
theorem od_new (o : Od) {W : World} {b : Nat} (hb : W.heap.size = b) : ∀ j u, (odEnc o)[j]? = some u → (W.alloc (.cells #[.int .i64 o.f0, .string o.f1, .string o.f2, .int .i64 o.f3, .int .i64 o.f4, .int .i64 o.f5, .int .i64 o.f6, .bool o.f7] 24)).cell? ((⟨b, 0, none⟩ : Addr).add j) = some u := by
  intro j u hu
  subst hb
  rw [Addr.add_lit, Nat.zero_add, blk_cell (World.alloc_heap_new W (.cells #[.int .i64 o.f0, .string o.f1, .string o.f2, .int .i64 o.f3, .int .i64 o.f4, .int .i64 o.f5, .int .i64 o.f6, .bool o.f7] 24)) j, ← hu]
  simp [odEnc]
theorem od_one (o : Od) : ∀ u ∈ odEnc o, u.oneCell' = true := od_flat.one o
set_option maxRecDepth 100000 in
set_option maxHeartbeats 8000000 in
theorem open_valid (A0 : Option Addr) (c0 : Nat) (l0 : List Od) (p : ByteArray) (month kn : Int) (w : World) (hr0 : Kd.C k24 w A0 l0.length l0) (hc0 : l0.length ≤ c0) (hv : valid l0 = true) :
    Calls Try.prog 17 #[.slice A0 l0.length c0, .string p, .int .i64 month, .int .i64 kn] w fun e w' => ∃ v0_ : Value, e = .returned (v0_) ∧ Kd.R k24 24 w' w.heap.size (fun _ => True) v0_ (openO l0 p month kn) ∧ Below w.heap.size w w' := by
  have HC := Lib.hid hr0
  have HL := Lib.hid hc0
  have HVV := Lib.hid hv
  have hlen := ((valid_iff l0).1 hv).1
  have HG := Lib.hid ((valid_iff l0).1 hv).2
  have HVC := Lib.hid (hv ▸ valid_any A0 c0 l0 w hr0 hc0)
  have hmm := @run_makeMap Try.prog
  clear hr0 hc0 hv
  go_enter Try.func17, Try.ntmps17
  go_wp2_with (go_at_call 14; refine HVC.out.mono ?_; rintro e w1 ⟨rfl, hb⟩; have HB := Lib.hid hb; clear hb)
  go_loopw [21] (fun i wr => ∃ k : Nat, k ≤ l0.length ∧ i = .int .i64 k ∧ OInv l0 p kn w w1 k wr) (fun i _ => l0.length - (intOf i).toNat)
  case atStart => exact ⟨0, Nat.zero_le _, rfl, MapT.made _ _ _ _ _, below_alloc (Below.refl _ _) _⟩
  case round =>
    obtain ⟨k, hk, rfl, hI⟩ := hrel
    by_cases hlt : k < l0.length
    · have HI := Lib.hid hI
      obtain ⟨ad, rfl, a0, a1, a2, a3, a4, a5, a6, a7⟩ := od_cells (Kd.C_below (Kd.C_below HC.out HB.out) HI.out.2) hlt
      have hmem := odAt_mem hlt
      have HT := Lib.hid (take_odAt hlt)
      generalize ho : odAt l0 k = o at *
      have HO := Lib.hid ho
      have hff := FOk.of (HG.out.formed o hmem)
      have okn : okI o.f0 := WalkArith.wf_i64 (by have := hff.f0; omega)
      have HOK := Lib.hid okn
      have hkm : k < maxLen := by unfold maxLen; omega
      have HKM := Lib.hid hkm
      clear ho hI hmem hff okn hkm
      by_cases hp : o.f1 = p
      · have HP := Lib.hid hp
        rw [hp] at a1
        clear hp
        by_cases hkn : o.f4 ≤ kn
        · have z1 : decide (o.f4 ≤ kn) = true := decide_eq_true hkn
          go_wp2_with (first
            | (at_mapUpdate; refine wpList_storeT keyI rfl _ _ _ 33 24 rfl Try.underlying33 w1.heap.size k (gOf (cur p kn (l0.take k))) o.f0 (odV ⟨o.f0, p, o.f2, o.f3, o.f4, o.f5, o.f6, o.f7⟩) rfl rfl rfl (HI.out.1.alloc _) HKM.out HOK.out ?_; intro w2 m2 k2)
            | go_in)
          go_roundw
          case rel =>
            refine ⟨k + 1, by omega, by go_num, ?_, Below.trans HI.out.2 (Below.trans (below_alloc (Below.refl _ _) _ |>.mono HI.out.2.size) (k2.below (B := w1.heap.size) (by have := HI.out.2.size; simp; omega) (fun i h => by have h2 : i = w1.heap.size := h; omega)))⟩
            have e : cur p kn (l0.take (k + 1)) = (cur p kn (l0.take k)).filter (fun x => decide (x.f0 ≠ o.f0)) ++ [o] := by
              rw [HT.out, cur_snoc]
              exact if_pos ⟨HP.out, hkn⟩
            rw [e, gOf_step]
            have e2 : odV ⟨o.f0, p, o.f2, o.f3, o.f4, o.f5, o.f6, o.f7⟩ = odV o := by rw [← HP.out]
            rw [← e2]
            exact m2
          case measure => simp [intOf]; omega
        · have z1 : decide (o.f4 ≤ kn) = false := decide_eq_false hkn
          have HKN := Lib.hid hkn
          clear hkn
          go_wp2_with fail
          go_roundw
          case rel =>
            refine ⟨k + 1, by omega, by go_num, ?_, below_alloc HI.out.2 _⟩
            have e : cur p kn (l0.take (k + 1)) = cur p kn (l0.take k) := by
              rw [HT.out, cur_snoc]
              exact if_neg (fun h => HKN.out h.2)
            rw [e]
            exact (HI.out.1.alloc _).mono (by omega)
          case measure => simp [intOf]; omega
      · have ne : ¬ o.f1.toList = p.toList := fun h => hp (str_eq.1 h)
        have ne' : (o.f1.toList == p.toList) = false := beq_eq_false_iff_ne.2 ne
        have HP := Lib.hid hp
        clear hp
        go_wp2_with fail
        go_roundw
        case rel =>
          refine ⟨k + 1, by omega, by go_num, ?_, below_alloc HI.out.2 _⟩
          have e : cur p kn (l0.take (k + 1)) = cur p kn (l0.take k) := by
            rw [HT.out, cur_snoc]
            exact if_neg (fun h => HP.out h.1)
          rw [e]
          exact (HI.out.1.alloc _).mono (by omega)
        case measure => simp [intOf]; omega
    · obtain rfl : k = l0.length := by omega
      unfold OInv at hI
      rw [List.take_length] at hI
      have hC1 := cur_distinct p kn l0
      have hC2 := fun o (ho : o ∈ cur p kn l0) => FOk.of (HG.out.formed o (cur_mem ho).1)
      have hC3 := cur_len p kn l0
      have HF := Lib.hid (show openO l0 p month kn = sortO ((cur p kn l0).filter (isOpen month)) from by unfold openO; rw [if_pos HVV.out])
      generalize hC : cur p kn l0 = C at *
      have HD := Lib.hid (And.intro hC1 (And.intro hC2 hC3))
      have HI := Lib.hid hI
      clear hC hC1 hC2 hC3 hI
      obtain ⟨wq, hwq⟩ : ∃ wq : World, wq = wr := ⟨_, rfl⟩
      subst hwq
      go_wp2_with (first
        | (at_range; refine wpList_rangeT keyI rfl _ 33 24 rfl Try.underlying33 w1.heap.size l0.length (gOf C) rfl HI.out.1 ?_; intro w0 cnt hr0 hc0 hk0 hs0)
        | go_in)
      go_frame
      have HR0 := Lib.hid (And.intro hr0 (And.intro hk0 hs0))
      clear hr0 hk0 hs0 hc0
      go_loopw [12] (fun v wr => OInv2 C month w w1 wq.heap.size l0.length v wr) (fun _ wr => wr.rangeLeft w1.heap.size wq.heap.size)
      case atStart => exact ⟨[], cnt, [], HR0.out.1, Coll.nil _ _, World.ownsRow_nil _ _ _ _, Below.trans HI.out.2 (HR0.out.2.1.below HI.out.2.size (fun k h => h.elim)), by have := HR0.out.2.2; omega⟩
      case round =>
        obtain ⟨seen, cnt1, out, h1, h2, h3, h4, h5⟩ := hrel
        have H := Lib.hid (And.intro h1 (And.intro h2 (And.intro h3 (And.intro h4 h5))))
        clear h1 h2 h3 h4 h5
        go_wp2_with (first
          | (at_next; refine wpList_nextT keyI rfl _ rfl w1.heap.size wq.heap.size l0.length (gOf C) seen cnt1 rfl H.out.1 ?_ ?_)
          | go_in)
        · intro hall
          have HA := Lib.hid hall
          clear hall
          have hnd := H.out.1.nodup.1
          have hP := H.out.2.1.perm HD.out.1 hnd (fun o ho => HA.out o.f0 (WalkArith.wf_i64 (by have := (HD.out.2.1 o ho).f0; omega)) (gOf_isSome ho))
          have hdC := HD.out.1.filter (isOpen month)
          have hdO : out.Pairwise (fun a b => a.f0 ≠ b.f0) := hP.symm.pairwise hdC (fun {a b} h e => h e.symm)
          have hlO := Nat.le_trans (H.out.2.1.len hnd) HD.out.2.2
          have HEQ := Lib.hid (show sortO out = openO l0 p month kn from by rw [HF.out]; exact sortO_of_perm hdC ((sortO_perm out).trans hP) (sortO_sorted hdO))
          have hwl : w.heap.size ≤ wq.heap.size + 1 := by have := HB.out.size; have := HI.out.2.size; omega
          have HS := Lib.hid (And.intro (own_weaken H.out.2.2.1 hwl) (And.intro hdO hlO))
          have HBW := Lib.hid (Below.trans HB.out (H.out.2.2.2.1.mono HB.out.size))
          clear hnd hP hdC hdO hlO hwl
          go_wp2_with fail
          refine (od_sort_c HS.out.1 HS.out.2.1 (by have := HS.out.2.2; omega)).mono ?_
          rintro e w3 ⟨rfl, hR, hg⟩
          rw [HEQ.out] at hR
          have HR := Lib.hid (And.intro hR (Below.grown HBW.out hg HBW.out.size (fun k hk => (HS.out.1.lt k hk).1)))
          clear hR hg
          go_wp2_with fail
          go_ret
          exact ⟨_, rfl, HR.out.1, HR.out.2⟩
        · intro x v w2 cnt2 hx hns hgx hr2 hlt hk2 hs2 hen
          obtain ⟨o, hoC, hox, hv⟩ := gOf_some hgx
          subst hox
          subst hv
          have ho := HD.out.2.1 o hoC
          have HN := Lib.hid (And.intro hr2 (And.intro hlt hk2))
          have HOC := Lib.hid hoC
          have HH := Lib.hid (own_KB H.out.2.2.1 hk2 (fun k h => by have h2 : k = wq.heap.size := h; omega))
          have HBW := Lib.hid (show Below w1.heap.size w1 w2 from Below.trans H.out.2.2.2.1 (hk2.below H.out.2.2.2.1.size (fun k h => by have h2 : k = wq.heap.size := h; have := HI.out.2.size; omega)))
          have hrs : wq.heap.size < wr.heap.size := H.out.2.2.2.2
          have HLN := Lib.hid (H.out.2.1.len H.out.1.nodup.1)
          clear hr2 hlt hk2 hoC hx hns hgx
          by_cases c5 : o.f5 ≤ month
          · have z5 : decide (o.f5 ≤ month) = true := decide_eq_true c5
            by_cases c6 : 0 < o.f6
            · have z6 : decide (0 < o.f6) = true := decide_eq_true c6
              have HP := Lib.hid (show isOpen month o = true from decide_eq_true ⟨c5, c6⟩)
              obtain ⟨i0, hi, hz0, hz1, hz2⟩ := info_parts info24
              have HII := Lib.hid (And.intro hi (And.intro hz0 (And.intro hz1 hz2)))
              have HS2 := Lib.hid hs2
              clear c5 c6 ho hi hz0 hz1 hz2
              go_wp2_with (first
                | (at_builtin; refine wpList_append_own _ rfl _ _ 22 rfl (wq.heap.size + 1) 24 i0 _ 8 80 Try.underlying22 HII.out.1 HII.out.2.1 HII.out.2.2.1 HII.out.2.2.2 rfl (by decide) _ out.length (out.flatMap odEnc) rfl ((HH.out.alloc _).alloc _) ⟨wr.heap.size + 1, 0, none⟩ 1 1 (odEnc o) rfl rfl (od_new o (by simp [HS2.out])) (od_one o) (by have := HLN.out; have := HD.out.2.2; unfold maxLen; omega) (by have := HLN.out; have := HD.out.2.2; omega) (by simp [HS2.out]; omega) ?_; intro v' w3 hown' hgrow _; have HW3 := Lib.hid (And.intro hown' (KB.of_append (Mine := NoB) (L := wq.heap.size + 1) (HH.out.alloc _) (Nat.le_refl _) hgrow)); clear hown' hgrow)
                | go_in)
              have hkb := KB.trans' (S := fun k => wq.heap.size + 1 ≤ k) ((KB.refl _ w2).alloc (.cells #[.int .i64 o.f0, .string o.f1, .string o.f2, .int .i64 o.f3, .int .i64 o.f4, .int .i64 o.f5, .int .i64 o.f6, .bool o.f7] 24)) HW3.out.2 (fun i h _ => by rcases h with h | h; exact h.elim; exact h.1)
              have hq : w1.heap.size < wq.heap.size := HI.out.1.lt
              have hr3 := HN.out.1.kb hkb (by show ¬ wq.heap.size + 1 ≤ w1.heap.size; omega) (by show ¬ wq.heap.size + 1 ≤ wq.heap.size; omega)
              have hown3 := HW3.out.1
              have efl : out.flatMap odEnc ++ odEnc o = (out ++ [o]).flatMap odEnc := by simp
              have elen : out.length + 1 = (out ++ [o]).length := by simp
              rw [efl, elen] at hown3
              have HR3 := Lib.hid (And.intro hr3 (And.intro hown3 (And.intro (Below.trans HBW.out (hkb.below (B := w1.heap.size) HBW.out.size (fun k h => by have h2 : wq.heap.size + 1 ≤ k := h; omega))) (show wq.heap.size < w3.heap.size from by have := hkb.size; have := HS2.out; omega))))
              clear hkb hq hr3 hown3 efl elen
              go_roundw
              case rel => exact ⟨_, _, out ++ [o], HR3.out.1, H.out.2.1.hit HOC.out HP.out, HR3.out.2.1, HR3.out.2.2.1, HR3.out.2.2.2⟩
              case measure => rw [HR3.out.1.left_eq, H.out.1.left_eq]; exact HN.out.2.1
            · have z6 : decide (0 < o.f6) = false := decide_eq_false c6
              have HP := Lib.hid (show isOpen month o = false from decide_eq_false (fun h => c6 h.2))
              clear c5 c6 ho
              go_wp2_with fail
              have hr3 := HN.out.1.kb (S := NoB) ((KB.refl _ _).alloc (.cells #[.int .i64 o.f0, .string o.f1, .string o.f2, .int .i64 o.f3, .int .i64 o.f4, .int .i64 o.f5, .int .i64 o.f6, .bool o.f7] 24)) (fun h => h) (fun h => h)
              have HR3 := Lib.hid hr3
              clear hr3
              go_roundw
              case rel => exact ⟨_, _, out, HR3.out, H.out.2.1.miss HOC.out HP.out, HH.out.alloc _, below_alloc HBW.out _, by simp [hs2]; omega⟩
              case measure => rw [HR3.out.left_eq, H.out.1.left_eq]; exact HN.out.2.1
          · have z5 : decide (o.f5 ≤ month) = false := decide_eq_false c5
            have HP := Lib.hid (show isOpen month o = false from decide_eq_false (fun h => c5 h.1))
            clear c5 ho
            go_wp2_with fail
            have hr3 := HN.out.1.kb (S := NoB) ((KB.refl _ _).alloc (.cells #[.int .i64 o.f0, .string o.f1, .string o.f2, .int .i64 o.f3, .int .i64 o.f4, .int .i64 o.f5, .int .i64 o.f6, .bool o.f7] 24)) (fun h => h) (fun h => h)
            have HR3 := Lib.hid hr3
            clear hr3
            go_roundw
            case rel => exact ⟨_, _, out, HR3.out, H.out.2.1.miss HOC.out HP.out, HH.out.alloc _, below_alloc HBW.out _, by simp [hs2]; omega⟩
            case measure => rw [HR3.out.left_eq, H.out.1.left_eq]; exact HN.out.2.1
set_option maxRecDepth 100000 in
set_option maxHeartbeats 8000000 in
theorem open_bad (A0 : Option Addr) (c0 : Nat) (l0 : List Od) (p : ByteArray) (month kn : Int) (w : World) (hr0 : Kd.C k24 w A0 l0.length l0) (hc0 : l0.length ≤ c0) (hv : valid l0 = false) :
    Calls Try.prog 17 #[.slice A0 l0.length c0, .string p, .int .i64 month, .int .i64 kn] w fun e w' => ∃ v0_ : Value, e = .returned (v0_) ∧ Kd.R k24 24 w' w.heap.size (fun _ => True) v0_ (openO l0 p month kn) ∧ Below w.heap.size w w' := by
  have HVC := Lib.hid (hv ▸ valid_any A0 c0 l0 w hr0 hc0)
  have HF := Lib.hid (show openO l0 p month kn = [] from by unfold openO; rw [if_neg (by rw [hv]; simp)])
  clear hr0 hc0 hv
  go_enter Try.func17, Try.ntmps17
  go_wp2_with (go_at_call 14; refine HVC.out.mono ?_; rintro e w1 ⟨rfl, hb⟩; have HB := Lib.hid hb; clear hb)
  go_ret
  exact ⟨_, rfl, by rw [HF.out]; exact Kd.R_nil _ _ _ _ _, HB.out⟩
theorem orders_Open.calls (A0 : Option Addr) (c0 : Nat) (l0 : List Od) (a1 : ByteArray) (a2 : Int) (a3 : Int) (r : List Od) (w : World) (hr0 : Kd.C k24 w A0 l0.length l0) (hc0 : l0.length ≤ c0) (h : orders_Open.f l0 a1 a2 a3 = some r) :
    Calls Try.prog 17 #[.slice A0 l0.length c0, .string a1, .int .i64 a2, .int .i64 a3] w fun e w' => ∃ v0_ : Value, e = .returned (v0_) ∧ Kd.R k24 24 w' w.heap.size (fun _ => True) v0_ r ∧ Below w.heap.size w w' := by
  injection h with h
  subst h
  cases hv : valid l0 with
  | true => exact open_valid A0 c0 l0 a1 a2 a3 w hr0 hc0 hv
  | false => exact open_bad A0 c0 l0 a1 a2 a3 w hr0 hc0 hv
end Go.Proofs.Ytgbcihbnaecejaa.Q

namespace Go.Proofs.Ytgbcihbnaecejaa.Q
open Go Go.RowKit Go.Proofs.YtgbcihbnaecejaaW.PrintWords Go.Proofs.YtgbcihbnaecejaaW.PrintLast Go.Proofs.YtgbcihbnaecejaaW.PrintMore
set_option linter.unusedVariables false
set_option linter.unusedSimpArgs false
def Keep (P : World → Prop) (W : World) : Prop := P W ∧ ∀ W1 W2, P W1 → Below W1.heap.size W1 W2 → P W2
theorem Keep.step {P : World → Prop} {W W' : World} (h : Keep P W) (hb : Below W.heap.size W W') : Keep P W' := ⟨h.2 _ _ h.1 hb, h.2⟩
theorem Keep.and {P Q : World → Prop} {W : World} (h : Keep P W) (k : Keep Q W) : Keep (fun w => P w ∧ Q w) W := ⟨⟨h.1, k.1⟩, fun W1 W2 a b => ⟨h.2 _ _ a.1 b, k.2 _ _ a.2 b⟩⟩
theorem Keep.C {α : Type} {d : Kd α} {W : World} {A : Option Addr} {n : Nat} {l : List α} (h : Kd.C d W A n l) : Keep (fun w => Kd.C d w A n l) W := ⟨h, fun W1 W2 a b => Kd.C_below a b⟩
theorem Keep.below {w W : World} (h : Below w.heap.size w W) : Keep (fun W => Below w.heap.size w W) W := ⟨h, fun W1 W2 a b => below_step a b⟩
theorem Keep.cell {W : World} {a : Addr} {v : Value} (h : W.cell? a = some v) : Keep (fun w => w.cell? a = some v) W := ⟨h, fun W1 W2 a b => pw_cell_below b a⟩
theorem Keep.blk {W : World} {b : Nat} {o : Obj} (h : W.heap[b]? = some o) : Keep (fun w => w.heap[b]? = some o) W := ⟨h, fun W1 W2 a b => blk_below a b⟩
theorem Keep.alloc {P : World → Prop} {W : World} (h : Keep P W) (o : Obj) : Keep P (W.alloc o) := h.step (below_alloc (Below.refl _ _) o)
theorem Keep.drewN {P : World → Prop} {W : World} (h : Keep P W) (n : Nat) : Keep P (W.drewN n) := h.step (pw_below_drewN (Below.refl _ _) n)
abbrev oth : Od := ⟨7, (⟨#[97, 110, 110, 97]⟩ : ByteArray), (⟨#[115, 104, 111, 112]⟩ : ByteArray), 2, 30, 0, 0, false⟩
theorem addr_zero (a : Addr) : a.add 0 = a := by simp [Addr.add]
abbrev hOd (n r k c : Int) : Od := ⟨n, (⟨#[97, 110, 110, 97]⟩ : ByteArray), (⟨#[98, 97, 110, 107]⟩ : ByteArray), r, k, 0, c, false⟩
theorem order_c (a0 a1 a2 a3 : Int) (w : World) : Calls Try.prog 19 #[.int .i64 a0, .int .i64 a1, .int .i64 a2, .int .i64 a3] w fun e w' => e = .returned (.agg #[.int .i64 a0, .string (⟨#[97, 110, 110, 97]⟩ : ByteArray), .string (⟨#[98, 97, 110, 107]⟩ : ByteArray), .int .i64 a1, .int .i64 a2, .int .i64 0, .int .i64 a3, .bool false]) ∧ Below w.heap.size w w' :=
  wageofficelaw31_order.calls a0 a1 a2 a3 _ _ _ _ _ _ _ _ w rfl
set_option maxRecDepth 100000 in
theorem hx1 : (recO [hOd 7 2 10 500, hOd 3 1 20 900] (hOd 7 2 30 0)).2 = 0 := by decide +kernel
set_option maxRecDepth 100000 in
theorem hx2 : (recO [hOd 7 2 10 500, hOd 3 1 20 900, hOd 7 2 30 0] (hOd 7 2 29 0)).2 = 6 := by decide +kernel
set_option maxRecDepth 100000 in
theorem hx3 : (recO [hOd 7 2 10 500, hOd 3 1 20 900, hOd 7 2 30 0] ⟨7, (⟨#[97, 110, 110, 97]⟩ : ByteArray), (⟨#[115, 104, 111, 112]⟩ : ByteArray), 2, 30, 0, 0, false⟩).2 = 311 := by decide +kernel
set_option maxRecDepth 100000 in
theorem hx4 : (recO [hOd 7 2 10 500, hOd 3 1 20 900, hOd 7 2 30 0] (hOd 0 1 30 1)).2 = 1 := by decide +kernel
set_option maxRecDepth 100000 in
theorem hx5 : (openO [hOd 7 2 10 500, hOd 3 1 20 900, hOd 7 2 30 0] (⟨#[97, 110, 110, 97]⟩ : ByteArray) 0 9).length = 0 := by decide +kernel
set_option maxRecDepth 100000 in
theorem hx6 : (openO [hOd 7 2 10 500, hOd 3 1 20 900, hOd 7 2 30 0] (⟨#[97, 110, 110, 97]⟩ : ByteArray) 0 25).length = 2 ∧ (odAt (openO [hOd 7 2 10 500, hOd 3 1 20 900, hOd 7 2 30 0] (⟨#[97, 110, 110, 97]⟩ : ByteArray) 0 25) 0).f0 = 3 ∧ (odAt (openO [hOd 7 2 10 500, hOd 3 1 20 900, hOd 7 2 30 0] (⟨#[97, 110, 110, 97]⟩ : ByteArray) 0 25) 1).f6 = 500 := by decide +kernel
set_option maxRecDepth 100000 in
theorem hx7 : (openO [hOd 7 2 10 500, hOd 3 1 20 900, hOd 7 2 30 0] (⟨#[97, 110, 110, 97]⟩ : ByteArray) 0 30).length = 1 := by decide +kernel
set_option maxRecDepth 100000 in
theorem hx8 : valid [hOd 7 2 10 500, hOd 3 1 20 900, hOd 7 2 30 0] = true ∧ valid [⟨7, (⟨#[97, 110, 110, 97]⟩ : ByteArray), (⟨#[115, 104, 111, 112]⟩ : ByteArray), 2, 30, 0, 0, false⟩, hOd 7 2 10 500] = false := by decide +kernel
theorem hx9 : (recO [hOd 7 2 10 500, hOd 3 1 20 900] (hOd 7 2 30 0)).1 = [hOd 7 2 10 500, hOd 3 1 20 900, hOd 7 2 30 0] := by
  have h := hx1
  unfold recO at h ⊢
  by_cases h1 : valid [hOd 7 2 10 500, hOd 3 1 20 900] = true ∧ formedOk (hOd 7 2 30 0) = true
  · rw [if_pos h1] at h ⊢
    by_cases h2 : lastLe [hOd 7 2 10 500, hOd 3 1 20 900] (hOd 7 2 30 0) = true
    · rw [if_pos h2] at h ⊢
      by_cases h3 : sameParties [hOd 7 2 10 500, hOd 3 1 20 900] (hOd 7 2 30 0) = true
      · rw [if_pos h3] at h ⊢
        by_cases h4 : valid ([hOd 7 2 10 500, hOd 3 1 20 900] ++ [hOd 7 2 30 0]) = true
        · rw [if_pos h4]
          rfl
        · rw [if_neg h4] at h; simp at h
      · rw [if_neg h3] at h; simp at h
    · rw [if_neg h2] at h; simp at h
  · rw [if_neg h1] at h; simp at h
theorem record_c (A : Option Addr) (n c : Nat) (L : List Od) (o : Od) (m : Int) (w : World) (hr : Kd.C k24 w A L.length L) (hn : L.length = n) (hc : n ≤ c) (h2 : (recO L o).2 = m) :
    Calls Try.prog 12 #[.slice A n c, .agg #[.int .i64 o.f0, .string o.f1, .string o.f2, .int .i64 o.f3, .int .i64 o.f4, .int .i64 o.f5, .int .i64 o.f6, .bool o.f7]] w fun e w' => ∃ v : Value, e = .returned (.tuple #[v, .int .i64 m]) ∧ Kd.R k24 24 w' w.heap.size (fun _ => True) v (recO L o).1 ∧ Below w.heap.size w w' := by
  subst h2
  subst hn
  exact record_any A c L o w hr hc
theorem valid_n (A : Option Addr) (n c : Nat) (L : List Od) (b : Bool) (w : World) (hr : Kd.C k24 w A L.length L) (hn : L.length = n) (hc : n ≤ c) (hb : valid L = b) :
    Calls Try.prog 14 #[.slice A n c] w fun e w' => e = .returned (.bool b) ∧ Below w.heap.size w w' := by
  subst hn
  subst hb
  exact valid_any A c L w hr hc
theorem C_two {W : World} {b : Nat} {o p : Od} (h : W.heap[b]? = some (.cells #[.int .i64 o.f0, .string o.f1, .string o.f2, .int .i64 o.f3, .int .i64 o.f4, .int .i64 o.f5, .int .i64 o.f6, .bool o.f7, .int .i64 p.f0, .string p.f1, .string p.f2, .int .i64 p.f3, .int .i64 p.f4, .int .i64 p.f5, .int .i64 p.f6, .bool p.f7] 24 (0, 0))) : Kd.C k24 W (some ⟨b, 0, none⟩) [o, p].length [o, p] := by
  refine ⟨rfl, by simp, fun _ => ⟨_, rfl, fun j q hq => ?_⟩⟩
  match j, hq with
  | 0, hq =>
    simp at hq
    subst hq
    refine ⟨_, rfl, k24_mk W o, fun i u hu => ?_⟩
    have hi : i < 8 := (List.getElem?_eq_some_iff.1 hu).1
    obtain rfl | rfl | rfl | rfl | rfl | rfl | rfl | rfl : i = 0 ∨ i = 1 ∨ i = 2 ∨ i = 3 ∨ i = 4 ∨ i = 5 ∨ i = 6 ∨ i = 7 := by omega
    · exact (blk_cell h 0).trans hu
    · exact (blk_cell h 1).trans hu
    · exact (blk_cell h 2).trans hu
    · exact (blk_cell h 3).trans hu
    · exact (blk_cell h 4).trans hu
    · exact (blk_cell h 5).trans hu
    · exact (blk_cell h 6).trans hu
    · exact (blk_cell h 7).trans hu
  | 1, hq =>
    simp at hq
    subst hq
    refine ⟨_, rfl, k24_mk W p, fun i u hu => ?_⟩
    have hi : i < 8 := (List.getElem?_eq_some_iff.1 hu).1
    obtain rfl | rfl | rfl | rfl | rfl | rfl | rfl | rfl : i = 0 ∨ i = 1 ∨ i = 2 ∨ i = 3 ∨ i = 4 ∨ i = 5 ∨ i = 6 ∨ i = 7 := by omega
    · exact (blk_cell h 8).trans hu
    · exact (blk_cell h 9).trans hu
    · exact (blk_cell h 10).trans hu
    · exact (blk_cell h 11).trans hu
    · exact (blk_cell h 12).trans hu
    · exact (blk_cell h 13).trans hu
    · exact (blk_cell h 14).trans hu
    · exact (blk_cell h 15).trans hu
  | j + 2, hq => simp at hq
def wageofficelaw31_head.f : Option Bool := some true
set_option maxRecDepth 100000 in
set_option maxHeartbeats 4000000 in
theorem head_any (w : World) : Calls Try.prog 10 #[] w fun e w' => e = .returned (.bool true) ∧ Below w.heap.size w w' := by
  have HP := Lib.hid (Keep.below (Below.refl w.heap.size w))
  obtain ⟨L2, hL2⟩ : ∃ L2, L2 = [hOd 7 2 10 500, hOd 3 1 20 900] := ⟨_, rfl⟩
  have HL2 := Lib.hid hL2
  clear hL2
  go_enter Try.func10, Try.ntmps10
  go_wp2_with fail
  refine (order_c _ _ _ _ _).mono ?_
  rintro e w1 ⟨rfl, hb⟩
  have HP1 := Lib.hid (HP.out.step hb)
  clear hb HP
  go_wp2_with fail
  refine (order_c _ _ _ _ _).mono ?_
  rintro e w2 ⟨rfl, hb⟩
  have HP2 := Lib.hid (HP1.out.step hb)
  clear hb HP1
  go_wp2_with fail
  refine (order_c _ _ _ _ _).mono ?_
  rintro e w3 ⟨rfl, hb⟩
  have HP3 := Lib.hid (((HP2.out.alloc _).and (Keep.C (C_two (o := hOd 7 2 10 500) (p := hOd 3 1 20 900) (World.alloc_heap_new w2 _)))).step hb)
  clear hb HP2
  go_wp2_with fail
  refine (record_c _ 2 2 [hOd 7 2 10 500, hOd 3 1 20 900] (hOd 7 2 30 0) _ _ HP3.out.1.2 rfl (by omega) hx1).mono ?_
  rintro e w4 ⟨v, rfl, hR, hb⟩
  rw [hx9] at hR
  obtain ⟨L3, hL3⟩ : ∃ L3, L3 = [hOd 7 2 10 500, hOd 3 1 20 900, hOd 7 2 30 0] := ⟨_, rfl⟩
  rw [← hL3] at hR
  have y2 := hx2
  have y3 := hx3
  have y4 := hx4
  have y5 := hx5
  have y6 := hx6
  have y7 := hx7
  have y8 := hx8
  have ylen : L3.length = 3 := by rw [hL3]; rfl
  have yat : odAt L3 0 = hOd 7 2 10 500 := by rw [hL3]; rfl
  rw [← hL3] at y2 y3 y4 y5 y6 y7 y8
  obtain ⟨A, c, e1⟩ := Kd.R_slice hR
  subst e1
  have HY := Lib.hid (And.intro y2 (And.intro y3 (And.intro y4 (And.intro y5 (And.intro y6 (And.intro y7 (And.intro y8 (And.intro ylen yat))))))))
  have HLC := Lib.hid (Kd.R_reads' hR).2.1
  have HP4 := Lib.hid ((HP3.out.step hb).and (Keep.C (Kd.R_reads' hR).2.2))
  clear hb hR hL3 y2 y3 y4 y5 y6 y7 y8 ylen yat HP3
  generalize hOa : openO L3 (⟨#[97, 110, 110, 97]⟩ : ByteArray) 0 9 = La at *
  generalize hOb : openO L3 (⟨#[97, 110, 110, 97]⟩ : ByteArray) 0 25 = Lb at *
  generalize hOc : openO L3 (⟨#[97, 110, 110, 97]⟩ : ByteArray) 0 30 = Lc at *
  have HOa := Lib.hid hOa
  have HOb := Lib.hid hOb
  have HOc := Lib.hid hOc
  clear hOa hOb hOc
  go_wp2_with fail
  refine (orders_Open.calls A c L3 (⟨#[97, 110, 110, 97]⟩ : ByteArray) 0 9 La _ HP4.out.1.2 HLC.out (congrArg some HOa.out)).mono ?_
  rintro e w5 ⟨va, rfl, hR, hb⟩
  obtain ⟨Aa, ca, e1⟩ := Kd.R_slice hR
  subst e1
  have HP5 := Lib.hid ((HP4.out.step hb).and (Keep.C (Kd.R_reads' hR).2.2))
  clear hb hR HP4
  go_wp2_with fail
  refine (orders_Open.calls A c L3 (⟨#[97, 110, 110, 97]⟩ : ByteArray) 0 25 Lb _ HP5.out.1.1.2 HLC.out (congrArg some HOb.out)).mono ?_
  rintro e w6 ⟨vb, rfl, hR, hb⟩
  obtain ⟨Ab, cb, e1⟩ := Kd.R_slice hR
  subst e1
  have HP6 := Lib.hid ((HP5.out.step hb).and (Keep.C (Kd.R_reads' hR).2.2))
  clear hb hR HP5
  go_wp2_with fail
  refine (orders_Open.calls A c L3 (⟨#[97, 110, 110, 97]⟩ : ByteArray) 0 30 Lc _ HP6.out.1.1.1.2 HLC.out (congrArg some HOc.out)).mono ?_
  rintro e w7 ⟨vc, rfl, hR, hb⟩
  obtain ⟨Ac, cc, e1⟩ := Kd.R_slice hR
  subst e1
  have HP7 := Lib.hid (HP6.out.step hb)
  clear hb hR HP6
  go_wp2_with fail
  refine (order_c _ _ _ _ _).mono ?_
  rintro e w8 ⟨rfl, hb⟩
  have HP8 := Lib.hid (HP7.out.step hb)
  clear hb HP7
  go_wp2_with fail
  refine (record_c A L3.length c L3 (hOd 7 2 29 0) 6 _ HP8.out.1.1.1.2 rfl HLC.out HY.out.1).mono ?_
  rintro e w9 ⟨vd, rfl, hR, hb⟩
  have HP9 := Lib.hid (HP8.out.step hb)
  clear hb hR HP8
  go_wp2_with fail
  refine (order_c _ _ _ _ _).mono ?_
  rintro e w10 ⟨rfl, hb⟩
  have HP10 := Lib.hid (HP9.out.step hb)
  clear hb HP9
  go_wp2_with fail
  refine (record_c A L3.length c L3 oth 311 _ (HP10.out.alloc _).1.1.1.2 rfl HLC.out HY.out.2.1).mono ?_
  rintro e w11 ⟨ve, rfl, hR, hb⟩
  have HP11 := Lib.hid (((HP10.out.alloc _).and (Keep.blk (World.alloc_heap_new w10 (.cells #[.int .i64 7, .string (⟨#[97, 110, 110, 97]⟩ : ByteArray), .string (⟨#[115, 104, 111, 112]⟩ : ByteArray), .int .i64 2, .int .i64 30, .int .i64 0, .int .i64 0, .bool false] 24)))).step hb)
  clear hb hR HP10
  go_wp2_with fail
  refine (order_c _ _ _ _ _).mono ?_
  rintro e w12 ⟨rfl, hb⟩
  have HP12 := Lib.hid (HP11.out.step hb)
  clear hb HP11
  go_wp2_with fail
  refine (record_c A L3.length c L3 (hOd 0 1 30 1) 1 _ HP12.out.1.1.1.1.2 rfl HLC.out HY.out.2.2.1).mono ?_
  rintro e w13 ⟨vf, rfl, hR, hb⟩
  have HP13 := Lib.hid (HP12.out.step hb)
  clear hb hR HP12
  have HCL := Lib.hid HP13.out.1.1.1.1.2
  obtain ⟨adl, rfl, l0, l1, l2, l3, l4, l5, l6, l7⟩ := od_cells HCL.out (i := 0) (by rw [HY.out.2.2.2.2.2.2.2.1]; omega)
  obtain ⟨adb, rfl, lb0, -⟩ := od_cells HP13.out.1.1.2 (i := 0) (by rw [HY.out.2.2.2.2.1.1]; omega)
  obtain ⟨adb', eab, -, -, -, -, -, -, lb1, -⟩ := od_cells HP13.out.1.1.2 (i := 1) (by rw [HY.out.2.2.2.2.1.1]; omega)
  cases eab
  rw [HY.out.2.2.2.2.2.2.2.2] at l0 l1 l2 l3 l4 l5 l6 l7
  rw [HY.out.2.2.2.2.1.2.1] at lb0
  rw [HY.out.2.2.2.2.1.2.2] at lb1
  obtain ⟨ot0, ot1, ot2, ot3, ot4, ot5, ot6, ot7⟩ := od_blk (o := oth) HP13.out.1.2
  simp only [Nat.zero_mul, Nat.one_mul, addr_zero] at l0 l1 l2 l3 l4 l5 l6 l7 lb0 lb1
  have lb1 : w13.cell? ⟨adb.block, adb.off + 8 + 6, none⟩ = some (.int .i64 500) := by simpa [Addr.add] using lb1
  have b1 : ((L3.length : Int) == 3) = true := by rw [HY.out.2.2.2.2.2.2.2.1]; rfl
  have b2 : ((La.length : Int) == 0) = true := by rw [HY.out.2.2.2.1]; rfl
  have b3 : ((Lb.length : Int) == 2) = true := by rw [HY.out.2.2.2.2.1.1]; rfl
  have b4 : ((Lc.length : Int) == 1) = true := by rw [HY.out.2.2.2.2.2.1]; rfl
  have b5 : (0 : Int) < (Lb.length : Int) := by rw [HY.out.2.2.2.2.1.1]; decide
  have b6 : (1 : Int) < (Lb.length : Int) := by rw [HY.out.2.2.2.2.1.1]; decide
  have b8 : 0 < Lb.length := by rw [HY.out.2.2.2.2.1.1]; decide
  have b9 : 1 < Lb.length := by rw [HY.out.2.2.2.2.1.1]; decide
  have b10 : 0 < L3.length := by rw [HY.out.2.2.2.2.2.2.2.1]; decide
  have b7 : (0 : Int) < (L3.length : Int) := by rw [HY.out.2.2.2.2.2.2.2.1]; decide
  simp only [hOd, oth] at l0 l1 l2 l3 l4 l5 l6 l7 ot0 ot1 ot2 ot3 ot4 ot5 ot6 ot7
  go_wp2_with fail
  refine start_ (n := 62) (S := fun W => Below w13.heap.size w13 W) (ds := []) #[false, false, false, false, false, false, false, false, false, false, false, false, false, false, false, false, false, false, false, false, false, false, false, false, false, false, false, false, false, false, false, false, false, false, false, false, false, false, false, false, false, false, false, false, false, false, false, false, false, false, false, false, false, false, false, false, false, false, false, false, false, false] (by kernel_rfl) rfl rfl (below_drew1 (Below.refl _ _)) (fun hHeld => ?_)
  refine pure_ (i := 0) (N := (some 47)) (v := ?_) (a' := ?_) #[true, false, false, false, false, false, false, false, false, false, false, false, false, false, false, false, false, false, false, false, false, false, false, false, false, false, false, false, false, false, false, false, false, false, false, false, false, false, false, false, false, false, false, false, false, false, false, false, false, false, false, false, false, false, false, false, false, false, false, false, false, false] rfl rfl (by kernel_rfl) (fun _ _ _ h => h) (Or.inl ⟨by rfl, ?_⟩) ?_ ?_
  rotate_left
  · intro w'
    go_simp
    with_reducible rfl
  rotate_left
  · simp only [Act.put, List.setIfInBounds_toArray, List.set_cons_zero, List.set_cons_succ, i64_w, i32_w]
    rfl
  refine pure_ (i := 1) (N := (some 48)) (v := ?_) (a' := ?_) #[true, true, false, false, false, false, false, false, false, false, false, false, false, false, false, false, false, false, false, false, false, false, false, false, false, false, false, false, false, false, false, false, false, false, false, false, false, false, false, false, false, false, false, false, false, false, false, false, false, false, false, false, false, false, false, false, false, false, false, false, false, false] rfl rfl (by kernel_rfl) (fun _ _ _ h => h) (Or.inl ⟨by rfl, ?_⟩) ?_ ?_
  rotate_left
  · intro w'
    go_simp
    with_reducible rfl
  rotate_left
  · simp only [Act.put, List.setIfInBounds_toArray, List.set_cons_zero, List.set_cons_succ, i64_w, i32_w]
    rfl
  refine pure_ (i := 2) (N := (some 49)) (v := ?_) (a' := ?_) #[true, true, true, false, false, false, false, false, false, false, false, false, false, false, false, false, false, false, false, false, false, false, false, false, false, false, false, false, false, false, false, false, false, false, false, false, false, false, false, false, false, false, false, false, false, false, false, false, false, false, false, false, false, false, false, false, false, false, false, false, false, false] rfl rfl (by kernel_rfl) (fun _ _ _ h => h) (Or.inl ⟨by rfl, ?_⟩) ?_ ?_
  rotate_left
  · intro w'
    go_simp
    with_reducible rfl
  rotate_left
  · simp only [Act.put, List.setIfInBounds_toArray, List.set_cons_zero, List.set_cons_succ, i64_w, i32_w]
    rfl
  refine pure_ (i := 3) (N := (some 50)) (v := ?_) (a' := ?_) #[true, true, true, true, false, false, false, false, false, false, false, false, false, false, false, false, false, false, false, false, false, false, false, false, false, false, false, false, false, false, false, false, false, false, false, false, false, false, false, false, false, false, false, false, false, false, false, false, false, false, false, false, false, false, false, false, false, false, false, false, false, false] rfl rfl (by kernel_rfl) (fun _ _ _ h => h) (Or.inl ⟨by rfl, ?_⟩) ?_ ?_
  rotate_left
  · intro w'
    go_simp
    with_reducible rfl
  rotate_left
  · simp only [Act.put, List.setIfInBounds_toArray, List.set_cons_zero, List.set_cons_succ, i64_w, i32_w]
    rfl
  refine pure_ (i := 4) (N := (some 51)) (v := ?_) (a' := ?_) #[true, true, true, true, true, false, false, false, false, false, false, false, false, false, false, false, false, false, false, false, false, false, false, false, false, false, false, false, false, false, false, false, false, false, false, false, false, false, false, false, false, false, false, false, false, false, false, false, false, false, false, false, false, false, false, false, false, false, false, false, false, false] rfl rfl (by kernel_rfl) (fun _ _ _ h => h) (Or.inl ⟨by rfl, ?_⟩) ?_ ?_
  rotate_left
  · intro w'
    go_simp
    with_reducible rfl
  rotate_left
  · simp only [Act.put, List.setIfInBounds_toArray, List.set_cons_zero, List.set_cons_succ, i64_w, i32_w]
    rfl
  refine pure_ (i := 5) (N := (some 52)) (v := ?_) (a' := ?_) #[true, true, true, true, true, true, false, false, false, false, false, false, false, false, false, false, false, false, false, false, false, false, false, false, false, false, false, false, false, false, false, false, false, false, false, false, false, false, false, false, false, false, false, false, false, false, false, false, false, false, false, false, false, false, false, false, false, false, false, false, false, false] rfl rfl (by kernel_rfl) (fun _ _ _ h => h) (Or.inl ⟨by rfl, ?_⟩) ?_ ?_
  rotate_left
  · intro w'
    go_simp
    with_reducible rfl
  rotate_left
  · simp only [Act.put, List.setIfInBounds_toArray, List.set_cons_zero, List.set_cons_succ, i64_w, i32_w]
    rfl
  refine pure_ (i := 6) (N := (some 53)) (v := ?_) (a' := ?_) #[true, true, true, true, true, true, true, false, false, false, false, false, false, false, false, false, false, false, false, false, false, false, false, false, false, false, false, false, false, false, false, false, false, false, false, false, false, false, false, false, false, false, false, false, false, false, false, false, false, false, false, false, false, false, false, false, false, false, false, false, false, false] rfl rfl (by kernel_rfl) (fun _ _ _ h => h) (Or.inl ⟨by rfl, ?_⟩) ?_ ?_
  rotate_left
  · intro w'
    go_simp
    with_reducible rfl
  rotate_left
  · simp only [Act.put, List.setIfInBounds_toArray, List.set_cons_zero, List.set_cons_succ, i64_w, i32_w]
    rfl
  refine pure_ (i := 7) (N := (some 54)) (v := ?_) (a' := ?_) #[true, true, true, true, true, true, true, true, false, false, false, false, false, false, false, false, false, false, false, false, false, false, false, false, false, false, false, false, false, false, false, false, false, false, false, false, false, false, false, false, false, false, false, false, false, false, false, false, false, false, false, false, false, false, false, false, false, false, false, false, false, false] rfl rfl (by kernel_rfl) (fun _ _ _ h => h) (Or.inl ⟨by rfl, ?_⟩) ?_ ?_
  rotate_left
  · intro w'
    go_simp
    with_reducible rfl
  rotate_left
  · simp only [Act.put, List.setIfInBounds_toArray, List.set_cons_zero, List.set_cons_succ, i64_w, i32_w]
    rfl
  refine pure_ (i := 8) (N := (some 55)) (v := ?_) (a' := ?_) #[true, true, true, true, true, true, true, true, true, false, false, false, false, false, false, false, false, false, false, false, false, false, false, false, false, false, false, false, false, false, false, false, false, false, false, false, false, false, false, false, false, false, false, false, false, false, false, false, false, false, false, false, false, false, false, false, false, false, false, false, false, false] rfl rfl (by kernel_rfl) (fun _ _ _ h => h) (Or.inl ⟨by rfl, ?_⟩) ?_ ?_
  rotate_left
  · intro w'
    go_simp
    with_reducible rfl
  rotate_left
  · simp only [Act.put, List.setIfInBounds_toArray, List.set_cons_zero, List.set_cons_succ, i64_w, i32_w]
    rfl
  refine pure_ (i := 9) (N := (some 56)) (v := ?_) (a' := ?_) #[true, true, true, true, true, true, true, true, true, true, false, false, false, false, false, false, false, false, false, false, false, false, false, false, false, false, false, false, false, false, false, false, false, false, false, false, false, false, false, false, false, false, false, false, false, false, false, false, false, false, false, false, false, false, false, false, false, false, false, false, false, false] rfl rfl (by kernel_rfl) (fun _ _ _ h => h) (Or.inl ⟨by rfl, ?_⟩) ?_ ?_
  rotate_left
  · intro w'
    go_simp
    with_reducible rfl
  rotate_left
  · simp only [Act.put, List.setIfInBounds_toArray, List.set_cons_zero, List.set_cons_succ, i64_w, i32_w]
    rfl
  refine pure_ (i := 10) (N := (some 57)) (v := ?_) (a' := ?_) #[true, true, true, true, true, true, true, true, true, true, true, false, false, false, false, false, false, false, false, false, false, false, false, false, false, false, false, false, false, false, false, false, false, false, false, false, false, false, false, false, false, false, false, false, false, false, false, false, false, false, false, false, false, false, false, false, false, false, false, false, false, false] rfl rfl (by kernel_rfl) (fun _ _ _ h => h) (Or.inl ⟨by rfl, ?_⟩) ?_ ?_
  rotate_left
  · intro w'
    go_simp
    with_reducible rfl
  rotate_left
  · simp only [Act.put, List.setIfInBounds_toArray, List.set_cons_zero, List.set_cons_succ, i64_w, i32_w]
    rfl
  refine pure_ (i := 11) (N := (some 58)) (v := ?_) (a' := ?_) #[true, true, true, true, true, true, true, true, true, true, true, true, false, false, false, false, false, false, false, false, false, false, false, false, false, false, false, false, false, false, false, false, false, false, false, false, false, false, false, false, false, false, false, false, false, false, false, false, false, false, false, false, false, false, false, false, false, false, false, false, false, false] rfl rfl (by kernel_rfl) (fun _ _ _ h => h) (Or.inl ⟨by rfl, ?_⟩) ?_ ?_
  rotate_left
  · intro w'
    go_simp
    with_reducible rfl
  rotate_left
  · simp only [Act.put, List.setIfInBounds_toArray, List.set_cons_zero, List.set_cons_succ, i64_w, i32_w]
    rfl
  refine pure_ (i := 12) (N := (some 59)) (v := ?_) (a' := ?_) #[true, true, true, true, true, true, true, true, true, true, true, true, true, false, false, false, false, false, false, false, false, false, false, false, false, false, false, false, false, false, false, false, false, false, false, false, false, false, false, false, false, false, false, false, false, false, false, false, false, false, false, false, false, false, false, false, false, false, false, false, false, false] rfl rfl (by kernel_rfl) (fun _ _ _ h => h) (Or.inl ⟨by rfl, ?_⟩) ?_ ?_
  rotate_left
  · intro w'
    go_simp
    with_reducible rfl
  rotate_left
  · simp only [Act.put, List.setIfInBounds_toArray, List.set_cons_zero, List.set_cons_succ, i64_w, i32_w]
    rfl
  refine pure_ (i := 13) (N := (some 60)) (v := ?_) (a' := ?_) #[true, true, true, true, true, true, true, true, true, true, true, true, true, true, false, false, false, false, false, false, false, false, false, false, false, false, false, false, false, false, false, false, false, false, false, false, false, false, false, false, false, false, false, false, false, false, false, false, false, false, false, false, false, false, false, false, false, false, false, false, false, false] rfl rfl (by kernel_rfl) (fun _ _ _ h => h) (Or.inl ⟨by rfl, ?_⟩) ?_ ?_
  rotate_left
  · intro w'
    go_simp
    with_reducible rfl
  rotate_left
  · simp only [Act.put, List.setIfInBounds_toArray, List.set_cons_zero, List.set_cons_succ, i64_w, i32_w]
    rfl
  refine pure_ (i := 14) (N := (some 61)) (v := ?_) (a' := ?_) #[true, true, true, true, true, true, true, true, true, true, true, true, true, true, true, false, false, false, false, false, false, false, false, false, false, false, false, false, false, false, false, false, false, false, false, false, false, false, false, false, false, false, false, false, false, false, false, false, false, false, false, false, false, false, false, false, false, false, false, false, false, false] rfl rfl (by kernel_rfl) (fun _ _ _ h => h) (Or.inl ⟨by rfl, ?_⟩) ?_ ?_
  rotate_left
  · intro w'
    go_simp
    with_reducible rfl
  rotate_left
  · simp only [Act.put, List.setIfInBounds_toArray, List.set_cons_zero, List.set_cons_succ, i64_w, i32_w]
    rfl
  refine pure_ (i := 15) (N := (some 62)) (v := ?_) (a' := ?_) #[true, true, true, true, true, true, true, true, true, true, true, true, true, true, true, true, false, false, false, false, false, false, false, false, false, false, false, false, false, false, false, false, false, false, false, false, false, false, false, false, false, false, false, false, false, false, false, false, false, false, false, false, false, false, false, false, false, false, false, false, false, false] rfl rfl (by kernel_rfl) (fun _ _ _ h => h) (Or.inl ⟨by rfl, ?_⟩) ?_ ?_
  rotate_left
  · intro w'
    go_simp
    with_reducible rfl
  rotate_left
  · simp only [Act.put, List.setIfInBounds_toArray, List.set_cons_zero, List.set_cons_succ, i64_w, i32_w]
    rfl
  refine pure_ (i := 16) (N := (some 63)) (v := ?_) (a' := ?_) #[true, true, true, true, true, true, true, true, true, true, true, true, true, true, true, true, true, false, false, false, false, false, false, false, false, false, false, false, false, false, false, false, false, false, false, false, false, false, false, false, false, false, false, false, false, false, false, false, false, false, false, false, false, false, false, false, false, false, false, false, false, false] rfl rfl (by kernel_rfl) (fun _ _ _ h => h) (Or.inl ⟨by rfl, ?_⟩) ?_ ?_
  rotate_left
  · intro w'
    go_simp
    with_reducible rfl
  rotate_left
  · simp only [Act.put, List.setIfInBounds_toArray, List.set_cons_zero, List.set_cons_succ, i64_w, i32_w]
    rfl
  refine pure_ (i := 17) (N := (some 64)) (v := ?_) (a' := ?_) #[true, true, true, true, true, true, true, true, true, true, true, true, true, true, true, true, true, true, false, false, false, false, false, false, false, false, false, false, false, false, false, false, false, false, false, false, false, false, false, false, false, false, false, false, false, false, false, false, false, false, false, false, false, false, false, false, false, false, false, false, false, false] rfl rfl (by kernel_rfl) (fun _ _ _ h => h) (Or.inl ⟨by rfl, ?_⟩) ?_ ?_
  rotate_left
  · intro w'
    go_simp
    with_reducible rfl
  rotate_left
  · simp only [Act.put, List.setIfInBounds_toArray, List.set_cons_zero, List.set_cons_succ, i64_w, i32_w]
    rfl
  refine pure_ (i := 18) (N := (some 65)) (v := ?_) (a' := ?_) #[true, true, true, true, true, true, true, true, true, true, true, true, true, true, true, true, true, true, true, false, false, false, false, false, false, false, false, false, false, false, false, false, false, false, false, false, false, false, false, false, false, false, false, false, false, false, false, false, false, false, false, false, false, false, false, false, false, false, false, false, false, false] rfl rfl (by kernel_rfl) (fun _ _ _ h => h) (Or.inl ⟨by rfl, ?_⟩) ?_ ?_
  rotate_left
  · intro w'
    go_simp
    with_reducible rfl
  rotate_left
  · simp only [Act.put, List.setIfInBounds_toArray, List.set_cons_zero, List.set_cons_succ, i64_w, i32_w]
    rfl
  refine pure_ (i := 19) (N := (some 66)) (v := ?_) (a' := ?_) #[true, true, true, true, true, true, true, true, true, true, true, true, true, true, true, true, true, true, true, true, false, false, false, false, false, false, false, false, false, false, false, false, false, false, false, false, false, false, false, false, false, false, false, false, false, false, false, false, false, false, false, false, false, false, false, false, false, false, false, false, false, false] rfl rfl (by kernel_rfl) (fun _ _ _ h => h) (Or.inl ⟨by rfl, ?_⟩) ?_ ?_
  rotate_left
  · intro w'
    go_simp
    with_reducible rfl
  rotate_left
  · simp only [Act.put, List.setIfInBounds_toArray, List.set_cons_zero, List.set_cons_succ, i64_w, i32_w]
    rfl
  refine pure_ (i := 20) (N := (some 67)) (v := ?_) (a' := ?_) #[true, true, true, true, true, true, true, true, true, true, true, true, true, true, true, true, true, true, true, true, true, false, false, false, false, false, false, false, false, false, false, false, false, false, false, false, false, false, false, false, false, false, false, false, false, false, false, false, false, false, false, false, false, false, false, false, false, false, false, false, false, false] rfl rfl (by kernel_rfl) (fun _ _ _ h => h) (Or.inl ⟨by rfl, ?_⟩) ?_ ?_
  rotate_left
  · intro w'
    go_simp
    with_reducible rfl
  rotate_left
  · simp only [Act.put, List.setIfInBounds_toArray, List.set_cons_zero, List.set_cons_succ, i64_w, i32_w]
    rfl
  refine take_ (i := 21) (N := (some 68)) (v := ?_) (a' := ?_) #[true, true, true, true, true, true, true, true, true, true, true, true, true, true, true, true, true, true, true, true, true, true, false, false, false, false, false, false, false, false, false, false, false, false, false, false, false, false, false, false, false, false, false, false, false, false, false, false, false, false, false, false, false, false, false, false, false, false, false, false, false, false] rfl rfl (by kernel_rfl) (fun _ _ _ h => h) (Or.inl ⟨by rfl, ?_⟩) hHeld ?_ ?_
  rotate_left
  · rintro w' sb
    have c0 := pw_cell_below sb lb0
    have c1 := pw_cell_below sb lb1
    have d0 := pw_cell_below sb ot0
    have d1 := pw_cell_below sb ot1
    have d2 := pw_cell_below sb ot2
    have d3 := pw_cell_below sb ot3
    have d4 := pw_cell_below sb ot4
    have d5 := pw_cell_below sb ot5
    have d6 := pw_cell_below sb ot6
    have d7 := pw_cell_below sb ot7
    have e0 := pw_cell_below sb l0
    have e1 := pw_cell_below sb l1
    have e2 := pw_cell_below sb l2
    have e3 := pw_cell_below sb l3
    have e4 := pw_cell_below sb l4
    have e5 := pw_cell_below sb l5
    have e6 := pw_cell_below sb l6
    have e7 := pw_cell_below sb l7
    clear sb
    go_simp
    with_reducible rfl
  rotate_left
  · simp only [Act.put, List.setIfInBounds_toArray, List.set_cons_zero, List.set_cons_succ, i64_w, i32_w]
    rfl
  refine pure_ (i := 22) (N := (some 69)) (v := ?_) (a' := ?_) #[true, true, true, true, true, true, true, true, true, true, true, true, true, true, true, true, true, true, true, true, true, true, true, false, false, false, false, false, false, false, false, false, false, false, false, false, false, false, false, false, false, false, false, false, false, false, false, false, false, false, false, false, false, false, false, false, false, false, false, false, false, false] rfl rfl (by kernel_rfl) (fun _ _ _ h => h) (Or.inl ⟨by rfl, ?_⟩) ?_ ?_
  rotate_left
  · intro w'
    go_simp
    with_reducible rfl
  rotate_left
  · simp only [Act.put, List.setIfInBounds_toArray, List.set_cons_zero, List.set_cons_succ, i64_w, i32_w]
    rfl
  refine pure_ (i := 23) (N := (some 70)) (v := ?_) (a' := ?_) #[true, true, true, true, true, true, true, true, true, true, true, true, true, true, true, true, true, true, true, true, true, true, true, true, false, false, false, false, false, false, false, false, false, false, false, false, false, false, false, false, false, false, false, false, false, false, false, false, false, false, false, false, false, false, false, false, false, false, false, false, false, false] rfl rfl (by kernel_rfl) (fun _ _ _ h => h) (Or.inl ⟨by rfl, ?_⟩) ?_ ?_
  rotate_left
  · intro w'
    go_simp
    with_reducible rfl
  rotate_left
  · simp only [Act.put, List.setIfInBounds_toArray, List.set_cons_zero, List.set_cons_succ, i64_w, i32_w]
    rfl
  refine pure_ (i := 24) (N := (some 71)) (v := ?_) (a' := ?_) #[true, true, true, true, true, true, true, true, true, true, true, true, true, true, true, true, true, true, true, true, true, true, true, true, true, false, false, false, false, false, false, false, false, false, false, false, false, false, false, false, false, false, false, false, false, false, false, false, false, false, false, false, false, false, false, false, false, false, false, false, false, false] rfl rfl (by kernel_rfl) (fun _ _ _ h => h) (Or.inl ⟨by rfl, ?_⟩) ?_ ?_
  rotate_left
  · intro w'
    go_simp
    with_reducible rfl
  rotate_left
  · simp only [Act.put, List.setIfInBounds_toArray, List.set_cons_zero, List.set_cons_succ, i64_w, i32_w]
    rfl
  refine pure_ (i := 25) (N := (some 72)) (v := ?_) (a' := ?_) #[true, true, true, true, true, true, true, true, true, true, true, true, true, true, true, true, true, true, true, true, true, true, true, true, true, true, false, false, false, false, false, false, false, false, false, false, false, false, false, false, false, false, false, false, false, false, false, false, false, false, false, false, false, false, false, false, false, false, false, false, false, false] rfl rfl (by kernel_rfl) (fun _ _ _ h => h) (Or.inl ⟨by rfl, ?_⟩) ?_ ?_
  rotate_left
  · intro w'
    go_simp
    with_reducible rfl
  rotate_left
  · simp only [Act.put, List.setIfInBounds_toArray, List.set_cons_zero, List.set_cons_succ, i64_w, i32_w]
    rfl
  refine pure_ (i := 26) (N := (some 73)) (v := ?_) (a' := ?_) #[true, true, true, true, true, true, true, true, true, true, true, true, true, true, true, true, true, true, true, true, true, true, true, true, true, true, true, false, false, false, false, false, false, false, false, false, false, false, false, false, false, false, false, false, false, false, false, false, false, false, false, false, false, false, false, false, false, false, false, false, false, false] rfl rfl (by kernel_rfl) (fun _ _ _ h => h) (Or.inl ⟨by rfl, ?_⟩) ?_ ?_
  rotate_left
  · intro w'
    go_simp
    with_reducible rfl
  rotate_left
  · simp only [Act.put, List.setIfInBounds_toArray, List.set_cons_zero, List.set_cons_succ, i64_w, i32_w]
    rfl
  refine pure_ (i := 27) (N := (some 74)) (v := ?_) (a' := ?_) #[true, true, true, true, true, true, true, true, true, true, true, true, true, true, true, true, true, true, true, true, true, true, true, true, true, true, true, true, false, false, false, false, false, false, false, false, false, false, false, false, false, false, false, false, false, false, false, false, false, false, false, false, false, false, false, false, false, false, false, false, false, false] rfl rfl (by kernel_rfl) (fun _ _ _ h => h) (Or.inl ⟨by rfl, ?_⟩) ?_ ?_
  rotate_left
  · intro w'
    go_simp
    with_reducible rfl
  rotate_left
  · simp only [Act.put, List.setIfInBounds_toArray, List.set_cons_zero, List.set_cons_succ, i64_w, i32_w]
    rfl
  refine take_ (i := 28) (N := (some 75)) (v := ?_) (a' := ?_) #[true, true, true, true, true, true, true, true, true, true, true, true, true, true, true, true, true, true, true, true, true, true, true, true, true, true, true, true, true, false, false, false, false, false, false, false, false, false, false, false, false, false, false, false, false, false, false, false, false, false, false, false, false, false, false, false, false, false, false, false, false, false] rfl rfl (by kernel_rfl) (fun _ _ _ h => h) (Or.inl ⟨by rfl, ?_⟩) hHeld ?_ ?_
  rotate_left
  · rintro w' sb
    have c0 := pw_cell_below sb lb0
    have c1 := pw_cell_below sb lb1
    have d0 := pw_cell_below sb ot0
    have d1 := pw_cell_below sb ot1
    have d2 := pw_cell_below sb ot2
    have d3 := pw_cell_below sb ot3
    have d4 := pw_cell_below sb ot4
    have d5 := pw_cell_below sb ot5
    have d6 := pw_cell_below sb ot6
    have d7 := pw_cell_below sb ot7
    have e0 := pw_cell_below sb l0
    have e1 := pw_cell_below sb l1
    have e2 := pw_cell_below sb l2
    have e3 := pw_cell_below sb l3
    have e4 := pw_cell_below sb l4
    have e5 := pw_cell_below sb l5
    have e6 := pw_cell_below sb l6
    have e7 := pw_cell_below sb l7
    clear sb
    go_simp
    with_reducible rfl
  rotate_left
  · simp only [Act.put, List.setIfInBounds_toArray, List.set_cons_zero, List.set_cons_succ, i64_w, i32_w]
    rfl
  refine pure_ (i := 29) (N := (some 76)) (v := ?_) (a' := ?_) #[true, true, true, true, true, true, true, true, true, true, true, true, true, true, true, true, true, true, true, true, true, true, true, true, true, true, true, true, true, true, false, false, false, false, false, false, false, false, false, false, false, false, false, false, false, false, false, false, false, false, false, false, false, false, false, false, false, false, false, false, false, false] rfl rfl (by kernel_rfl) (fun _ _ _ h => h) (Or.inl ⟨by rfl, ?_⟩) ?_ ?_
  rotate_left
  · intro w'
    go_simp
    with_reducible rfl
  rotate_left
  · simp only [Act.put, List.setIfInBounds_toArray, List.set_cons_zero, List.set_cons_succ, i64_w, i32_w]
    rfl
  refine pure_ (i := 30) (N := (some 77)) (v := ?_) (a' := ?_) #[true, true, true, true, true, true, true, true, true, true, true, true, true, true, true, true, true, true, true, true, true, true, true, true, true, true, true, true, true, true, true, false, false, false, false, false, false, false, false, false, false, false, false, false, false, false, false, false, false, false, false, false, false, false, false, false, false, false, false, false, false, false] rfl rfl (by kernel_rfl) (fun _ _ _ h => h) (Or.inl ⟨by rfl, ?_⟩) ?_ ?_
  rotate_left
  · intro w'
    go_simp
    with_reducible rfl
  rotate_left
  · simp only [Act.put, List.setIfInBounds_toArray, List.set_cons_zero, List.set_cons_succ, i64_w, i32_w]
    rfl
  refine pure_ (i := 31) (N := (some 78)) (v := ?_) (a' := ?_) #[true, true, true, true, true, true, true, true, true, true, true, true, true, true, true, true, true, true, true, true, true, true, true, true, true, true, true, true, true, true, true, true, false, false, false, false, false, false, false, false, false, false, false, false, false, false, false, false, false, false, false, false, false, false, false, false, false, false, false, false, false, false] rfl rfl (by kernel_rfl) (fun _ _ _ h => h) (Or.inl ⟨by rfl, ?_⟩) ?_ ?_
  rotate_left
  · intro w'
    go_simp
    with_reducible rfl
  rotate_left
  · simp only [Act.put, List.setIfInBounds_toArray, List.set_cons_zero, List.set_cons_succ, i64_w, i32_w]
    rfl
  refine pure_ (i := 32) (N := (some 79)) (v := ?_) (a' := ?_) #[true, true, true, true, true, true, true, true, true, true, true, true, true, true, true, true, true, true, true, true, true, true, true, true, true, true, true, true, true, true, true, true, true, false, false, false, false, false, false, false, false, false, false, false, false, false, false, false, false, false, false, false, false, false, false, false, false, false, false, false, false, false] rfl rfl (by kernel_rfl) (fun _ _ _ h => h) (Or.inl ⟨by rfl, ?_⟩) ?_ ?_
  rotate_left
  · intro w'
    go_simp
    with_reducible rfl
  rotate_left
  · simp only [Act.put, List.setIfInBounds_toArray, List.set_cons_zero, List.set_cons_succ, i64_w, i32_w]
    rfl
  refine pure_ (i := 33) (N := (some 80)) (v := ?_) (a' := ?_) #[true, true, true, true, true, true, true, true, true, true, true, true, true, true, true, true, true, true, true, true, true, true, true, true, true, true, true, true, true, true, true, true, true, true, false, false, false, false, false, false, false, false, false, false, false, false, false, false, false, false, false, false, false, false, false, false, false, false, false, false, false, false] rfl rfl (by kernel_rfl) (fun _ _ _ h => h) (Or.inl ⟨by rfl, ?_⟩) ?_ ?_
  rotate_left
  · intro w'
    go_simp
    with_reducible rfl
  rotate_left
  · simp only [Act.put, List.setIfInBounds_toArray, List.set_cons_zero, List.set_cons_succ, i64_w, i32_w]
    rfl
  refine pure_ (i := 34) (N := (some 81)) (v := ?_) (a' := ?_) #[true, true, true, true, true, true, true, true, true, true, true, true, true, true, true, true, true, true, true, true, true, true, true, true, true, true, true, true, true, true, true, true, true, true, true, false, false, false, false, false, false, false, false, false, false, false, false, false, false, false, false, false, false, false, false, false, false, false, false, false, false, false] rfl rfl (by kernel_rfl) (fun _ _ _ h => h) (Or.inl ⟨by rfl, ?_⟩) ?_ ?_
  rotate_left
  · intro w'
    go_simp
    with_reducible rfl
  rotate_left
  · simp only [Act.put, List.setIfInBounds_toArray, List.set_cons_zero, List.set_cons_succ, i64_w, i32_w]
    rfl
  refine pure_ (i := 35) (N := (some 82)) (v := ?_) (a' := ?_) #[true, true, true, true, true, true, true, true, true, true, true, true, true, true, true, true, true, true, true, true, true, true, true, true, true, true, true, true, true, true, true, true, true, true, true, true, false, false, false, false, false, false, false, false, false, false, false, false, false, false, false, false, false, false, false, false, false, false, false, false, false, false] rfl rfl (by kernel_rfl) (fun _ _ _ h => h) (Or.inl ⟨by rfl, ?_⟩) ?_ ?_
  rotate_left
  · intro w'
    go_simp
    with_reducible rfl
  rotate_left
  · simp only [Act.put, List.setIfInBounds_toArray, List.set_cons_zero, List.set_cons_succ, i64_w, i32_w]
    rfl
  refine pure_ (i := 36) (N := (some 83)) (v := ?_) (a' := ?_) #[true, true, true, true, true, true, true, true, true, true, true, true, true, true, true, true, true, true, true, true, true, true, true, true, true, true, true, true, true, true, true, true, true, true, true, true, true, false, false, false, false, false, false, false, false, false, false, false, false, false, false, false, false, false, false, false, false, false, false, false, false, false] rfl rfl (by kernel_rfl) (fun _ _ _ h => h) (Or.inl ⟨by rfl, ?_⟩) ?_ ?_
  rotate_left
  · intro w'
    go_simp
    with_reducible rfl
  rotate_left
  · simp only [Act.put, List.setIfInBounds_toArray, List.set_cons_zero, List.set_cons_succ, i64_w, i32_w]
    rfl
  refine pure_ (i := 37) (N := (some 84)) (v := ?_) (a' := ?_) #[true, true, true, true, true, true, true, true, true, true, true, true, true, true, true, true, true, true, true, true, true, true, true, true, true, true, true, true, true, true, true, true, true, true, true, true, true, true, false, false, false, false, false, false, false, false, false, false, false, false, false, false, false, false, false, false, false, false, false, false, false, false] rfl rfl (by kernel_rfl) (fun _ _ _ h => h) (Or.inl ⟨by rfl, ?_⟩) ?_ ?_
  rotate_left
  · intro w'
    go_simp
    with_reducible rfl
  rotate_left
  · simp only [Act.put, List.setIfInBounds_toArray, List.set_cons_zero, List.set_cons_succ, i64_w, i32_w]
    rfl
  refine pure_ (i := 38) (N := (some 85)) (v := ?_) (a' := ?_) #[true, true, true, true, true, true, true, true, true, true, true, true, true, true, true, true, true, true, true, true, true, true, true, true, true, true, true, true, true, true, true, true, true, true, true, true, true, true, true, false, false, false, false, false, false, false, false, false, false, false, false, false, false, false, false, false, false, false, false, false, false, false] rfl rfl (by kernel_rfl) (fun _ _ _ h => h) (Or.inl ⟨by rfl, ?_⟩) ?_ ?_
  rotate_left
  · intro w'
    go_simp
    with_reducible rfl
  rotate_left
  · simp only [Act.put, List.setIfInBounds_toArray, List.set_cons_zero, List.set_cons_succ, i64_w, i32_w]
    rfl
  refine pure_ (i := 39) (N := (some 86)) (v := ?_) (a' := ?_) #[true, true, true, true, true, true, true, true, true, true, true, true, true, true, true, true, true, true, true, true, true, true, true, true, true, true, true, true, true, true, true, true, true, true, true, true, true, true, true, true, false, false, false, false, false, false, false, false, false, false, false, false, false, false, false, false, false, false, false, false, false, false] rfl rfl (by kernel_rfl) (fun _ _ _ h => h) (Or.inl ⟨by rfl, ?_⟩) ?_ ?_
  rotate_left
  · intro w'
    go_simp
    with_reducible rfl
  rotate_left
  · simp only [Act.put, List.setIfInBounds_toArray, List.set_cons_zero, List.set_cons_succ, i64_w, i32_w]
    rfl
  refine pure_ (i := 40) (N := (some 87)) (v := ?_) (a' := ?_) #[true, true, true, true, true, true, true, true, true, true, true, true, true, true, true, true, true, true, true, true, true, true, true, true, true, true, true, true, true, true, true, true, true, true, true, true, true, true, true, true, true, false, false, false, false, false, false, false, false, false, false, false, false, false, false, false, false, false, false, false, false, false] rfl rfl (by kernel_rfl) (fun _ _ _ h => h) (Or.inl ⟨by rfl, ?_⟩) ?_ ?_
  rotate_left
  · intro w'
    go_simp
    with_reducible rfl
  rotate_left
  · simp only [Act.put, List.setIfInBounds_toArray, List.set_cons_zero, List.set_cons_succ, i64_w, i32_w]
    rfl
  refine pure_ (i := 41) (N := (some 88)) (v := ?_) (a' := ?_) #[true, true, true, true, true, true, true, true, true, true, true, true, true, true, true, true, true, true, true, true, true, true, true, true, true, true, true, true, true, true, true, true, true, true, true, true, true, true, true, true, true, true, false, false, false, false, false, false, false, false, false, false, false, false, false, false, false, false, false, false, false, false] rfl rfl (by kernel_rfl) (fun _ _ _ h => h) (Or.inl ⟨by rfl, ?_⟩) ?_ ?_
  rotate_left
  · intro w'
    go_simp
    with_reducible rfl
  rotate_left
  · simp only [Act.put, List.setIfInBounds_toArray, List.set_cons_zero, List.set_cons_succ, i64_w, i32_w]
    rfl
  refine pure_ (i := 42) (N := (some 89)) (v := ?_) (a' := ?_) #[true, true, true, true, true, true, true, true, true, true, true, true, true, true, true, true, true, true, true, true, true, true, true, true, true, true, true, true, true, true, true, true, true, true, true, true, true, true, true, true, true, true, true, false, false, false, false, false, false, false, false, false, false, false, false, false, false, false, false, false, false, false] rfl rfl (by kernel_rfl) (fun _ _ _ h => h) (Or.inl ⟨by rfl, ?_⟩) ?_ ?_
  rotate_left
  · intro w'
    go_simp
    with_reducible rfl
  rotate_left
  · simp only [Act.put, List.setIfInBounds_toArray, List.set_cons_zero, List.set_cons_succ, i64_w, i32_w]
    rfl
  refine pure_ (i := 43) (N := (some 90)) (v := ?_) (a' := ?_) #[true, true, true, true, true, true, true, true, true, true, true, true, true, true, true, true, true, true, true, true, true, true, true, true, true, true, true, true, true, true, true, true, true, true, true, true, true, true, true, true, true, true, true, true, false, false, false, false, false, false, false, false, false, false, false, false, false, false, false, false, false, false] rfl rfl (by kernel_rfl) (fun _ _ _ h => h) (Or.inl ⟨by rfl, ?_⟩) ?_ ?_
  rotate_left
  · intro w'
    go_simp
    with_reducible rfl
  rotate_left
  · simp only [Act.put, List.setIfInBounds_toArray, List.set_cons_zero, List.set_cons_succ, i64_w, i32_w]
    rfl
  refine pure_ (i := 44) (N := (some 91)) (v := ?_) (a' := ?_) #[true, true, true, true, true, true, true, true, true, true, true, true, true, true, true, true, true, true, true, true, true, true, true, true, true, true, true, true, true, true, true, true, true, true, true, true, true, true, true, true, true, true, true, true, true, false, false, false, false, false, false, false, false, false, false, false, false, false, false, false, false, false] rfl rfl (by kernel_rfl) (fun _ _ _ h => h) (Or.inl ⟨by rfl, ?_⟩) ?_ ?_
  rotate_left
  · intro w'
    go_simp
    with_reducible rfl
  rotate_left
  · simp only [Act.put, List.setIfInBounds_toArray, List.set_cons_zero, List.set_cons_succ, i64_w, i32_w]
    rfl
  refine pure_ (i := 45) (N := (some 92)) (v := ?_) (a' := ?_) #[true, true, true, true, true, true, true, true, true, true, true, true, true, true, true, true, true, true, true, true, true, true, true, true, true, true, true, true, true, true, true, true, true, true, true, true, true, true, true, true, true, true, true, true, true, true, false, false, false, false, false, false, false, false, false, false, false, false, false, false, false, false] rfl rfl (by kernel_rfl) (fun _ _ _ h => h) (Or.inl ⟨by rfl, ?_⟩) ?_ ?_
  rotate_left
  · intro w'
    go_simp
    with_reducible rfl
  rotate_left
  · simp only [Act.put, List.setIfInBounds_toArray, List.set_cons_zero, List.set_cons_succ, i64_w, i32_w]
    rfl
  refine pure_ (i := 46) (N := (some 93)) (v := ?_) (a' := ?_) #[true, true, true, true, true, true, true, true, true, true, true, true, true, true, true, true, true, true, true, true, true, true, true, true, true, true, true, true, true, true, true, true, true, true, true, true, true, true, true, true, true, true, true, true, true, true, true, false, false, false, false, false, false, false, false, false, false, false, false, false, false, false] rfl rfl (by kernel_rfl) (fun _ _ _ h => h) (Or.inl ⟨by rfl, ?_⟩) ?_ ?_
  rotate_left
  · intro w'
    go_simp
    with_reducible rfl
  rotate_left
  · simp only [Act.put, List.setIfInBounds_toArray, List.set_cons_zero, List.set_cons_succ, i64_w, i32_w]
    rfl
  refine pure_ (i := 47) (N := (some 94)) (v := ?_) (a' := ?_) #[true, true, true, true, true, true, true, true, true, true, true, true, true, true, true, true, true, true, true, true, true, true, true, true, true, true, true, true, true, true, true, true, true, true, true, true, true, true, true, true, true, true, true, true, true, true, true, true, false, false, false, false, false, false, false, false, false, false, false, false, false, false] rfl rfl (by kernel_rfl) (fun _ _ _ h => h) (Or.inl ⟨by rfl, ?_⟩) ?_ ?_
  rotate_left
  · intro w'
    go_simp
    with_reducible rfl
  rotate_left
  · simp only [Act.put, List.setIfInBounds_toArray, List.set_cons_zero, List.set_cons_succ, i64_w, i32_w]
    rfl
  refine pure_ (i := 48) (N := (some 95)) (v := ?_) (a' := ?_) #[true, true, true, true, true, true, true, true, true, true, true, true, true, true, true, true, true, true, true, true, true, true, true, true, true, true, true, true, true, true, true, true, true, true, true, true, true, true, true, true, true, true, true, true, true, true, true, true, true, false, false, false, false, false, false, false, false, false, false, false, false, false] rfl rfl (by kernel_rfl) (fun _ _ _ h => h) (Or.inl ⟨by rfl, ?_⟩) ?_ ?_
  rotate_left
  · intro w'
    go_simp
    with_reducible rfl
  rotate_left
  · simp only [Act.put, List.setIfInBounds_toArray, List.set_cons_zero, List.set_cons_succ, i64_w, i32_w]
    rfl
  refine pure_ (i := 49) (N := (some 96)) (v := ?_) (a' := ?_) #[true, true, true, true, true, true, true, true, true, true, true, true, true, true, true, true, true, true, true, true, true, true, true, true, true, true, true, true, true, true, true, true, true, true, true, true, true, true, true, true, true, true, true, true, true, true, true, true, true, true, false, false, false, false, false, false, false, false, false, false, false, false] rfl rfl (by kernel_rfl) (fun _ _ _ h => h) (Or.inl ⟨by rfl, ?_⟩) ?_ ?_
  rotate_left
  · intro w'
    go_simp
    with_reducible rfl
  rotate_left
  · simp only [Act.put, List.setIfInBounds_toArray, List.set_cons_zero, List.set_cons_succ, i64_w, i32_w]
    rfl
  refine one_ (i := 50) (N := (some 97)) #[true, true, true, true, true, true, true, true, true, true, true, true, true, true, true, true, true, true, true, true, true, true, true, true, true, true, true, true, true, true, true, true, true, true, true, true, true, true, true, true, true, true, true, true, true, true, true, true, true, true, true, false, false, false, false, false, false, false, false, false, false, false] rfl rfl (by kernel_rfl) (by decide) (fun K hK => ?_)
  refine goes_ Try.func14 (by kernel_rfl) rfl #[.slice (some adl) L3.length c] (by rfl) rfl rfl (by (try simp only [List.map_toArray, List.map_cons, List.map_nil]); first | done | rfl) ?_
  with_reducible refine (valid_n (some adl) L3.length c L3 true _ (Kd.C_below HCL.out hHeld) rfl HLC.out HY.out.2.2.2.2.2.2.1.1).mono ?_
  rintro e w' ⟨rfl, hb⟩
  refine ⟨_, rfl, ?_⟩
  refine hK.out _ _ (below_step hHeld hb) (fun hHeld => ?_)
  clear hK K
  clear hb
  refine norm_ (a' := ?_) ?_ ?_
  rotate_left
  · show Act.put _ (some 97) _ = _
    simp only [Act.put, List.setIfInBounds_toArray, List.set_cons_zero, List.set_cons_succ, i64_w, i32_w]
    rfl
  refine pure_ (i := 51) (N := (some 98)) (v := ?_) (a' := ?_) #[true, true, true, true, true, true, true, true, true, true, true, true, true, true, true, true, true, true, true, true, true, true, true, true, true, true, true, true, true, true, true, true, true, true, true, true, true, true, true, true, true, true, true, true, true, true, true, true, true, true, true, true, false, false, false, false, false, false, false, false, false, false] rfl rfl (by kernel_rfl) (fun _ _ _ h => h) (Or.inl ⟨by rfl, ?_⟩) ?_ ?_
  rotate_left
  · intro w'
    go_simp
    with_reducible rfl
  rotate_left
  · simp only [Act.put, List.setIfInBounds_toArray, List.set_cons_zero, List.set_cons_succ, i64_w, i32_w]
    rfl
  refine pure_ (i := 52) (N := (some 99)) (v := ?_) (a' := ?_) #[true, true, true, true, true, true, true, true, true, true, true, true, true, true, true, true, true, true, true, true, true, true, true, true, true, true, true, true, true, true, true, true, true, true, true, true, true, true, true, true, true, true, true, true, true, true, true, true, true, true, true, true, true, false, false, false, false, false, false, false, false, false] rfl rfl (by kernel_rfl) (fun _ _ _ h => h) (Or.inl ⟨by rfl, ?_⟩) ?_ ?_
  rotate_left
  · intro w'
    go_simp
    with_reducible rfl
  rotate_left
  · simp only [Act.put, List.setIfInBounds_toArray, List.set_cons_zero, List.set_cons_succ, i64_w, i32_w]
    rfl
  refine take_ (i := 53) (N := (some 100)) (v := ?_) (a' := ?_) #[true, true, true, true, true, true, true, true, true, true, true, true, true, true, true, true, true, true, true, true, true, true, true, true, true, true, true, true, true, true, true, true, true, true, true, true, true, true, true, true, true, true, true, true, true, true, true, true, true, true, true, true, true, true, false, false, false, false, false, false, false, false] rfl rfl (by kernel_rfl) (fun _ _ _ h => h) (Or.inl ⟨by rfl, ?_⟩) hHeld ?_ ?_
  rotate_left
  · rintro w' sb
    have c0 := pw_cell_below sb lb0
    have c1 := pw_cell_below sb lb1
    have d0 := pw_cell_below sb ot0
    have d1 := pw_cell_below sb ot1
    have d2 := pw_cell_below sb ot2
    have d3 := pw_cell_below sb ot3
    have d4 := pw_cell_below sb ot4
    have d5 := pw_cell_below sb ot5
    have d6 := pw_cell_below sb ot6
    have d7 := pw_cell_below sb ot7
    have e0 := pw_cell_below sb l0
    have e1 := pw_cell_below sb l1
    have e2 := pw_cell_below sb l2
    have e3 := pw_cell_below sb l3
    have e4 := pw_cell_below sb l4
    have e5 := pw_cell_below sb l5
    have e6 := pw_cell_below sb l6
    have e7 := pw_cell_below sb l7
    clear sb
    go_simp
    with_reducible rfl
  rotate_left
  · simp only [Act.put, List.setIfInBounds_toArray, List.set_cons_zero, List.set_cons_succ, i64_w, i32_w]
    rfl
  refine pure_ (i := 54) (N := (some 101)) (v := ?_) (a' := ?_) #[true, true, true, true, true, true, true, true, true, true, true, true, true, true, true, true, true, true, true, true, true, true, true, true, true, true, true, true, true, true, true, true, true, true, true, true, true, true, true, true, true, true, true, true, true, true, true, true, true, true, true, true, true, true, true, false, false, false, false, false, false, false] rfl rfl (by kernel_rfl) (fun _ _ _ h => h) (Or.inl ⟨by rfl, ?_⟩) ?_ ?_
  rotate_left
  · intro w'
    go_simp
    with_reducible rfl
  rotate_left
  · simp only [Act.put, List.setIfInBounds_toArray, List.set_cons_zero, List.set_cons_succ, i64_w, i32_w]
    rfl
  refine pure_ (i := 55) (N := (some 102)) (v := ?_) (a' := ?_) #[true, true, true, true, true, true, true, true, true, true, true, true, true, true, true, true, true, true, true, true, true, true, true, true, true, true, true, true, true, true, true, true, true, true, true, true, true, true, true, true, true, true, true, true, true, true, true, true, true, true, true, true, true, true, true, true, false, false, false, false, false, false] rfl rfl (by kernel_rfl) (fun _ _ _ h => h) (Or.inl ⟨by rfl, ?_⟩) ?_ ?_
  rotate_left
  · intro w'
    go_simp
    with_reducible rfl
  rotate_left
  · simp only [Act.put, List.setIfInBounds_toArray, List.set_cons_zero, List.set_cons_succ, i64_w, i32_w]
    rfl
  refine take_ (i := 56) (N := (some 103)) (v := ?_) (a' := ?_) #[true, true, true, true, true, true, true, true, true, true, true, true, true, true, true, true, true, true, true, true, true, true, true, true, true, true, true, true, true, true, true, true, true, true, true, true, true, true, true, true, true, true, true, true, true, true, true, true, true, true, true, true, true, true, true, true, true, false, false, false, false, false] rfl rfl (by kernel_rfl) (fun _ _ _ h => h) (Or.inl ⟨by rfl, ?_⟩) hHeld ?_ ?_
  rotate_left
  · rintro w' sb
    have c0 := pw_cell_below sb lb0
    have c1 := pw_cell_below sb lb1
    have d0 := pw_cell_below sb ot0
    have d1 := pw_cell_below sb ot1
    have d2 := pw_cell_below sb ot2
    have d3 := pw_cell_below sb ot3
    have d4 := pw_cell_below sb ot4
    have d5 := pw_cell_below sb ot5
    have d6 := pw_cell_below sb ot6
    have d7 := pw_cell_below sb ot7
    have e0 := pw_cell_below sb l0
    have e1 := pw_cell_below sb l1
    have e2 := pw_cell_below sb l2
    have e3 := pw_cell_below sb l3
    have e4 := pw_cell_below sb l4
    have e5 := pw_cell_below sb l5
    have e6 := pw_cell_below sb l6
    have e7 := pw_cell_below sb l7
    clear sb
    go_simp
    with_reducible rfl
  rotate_left
  · simp only [Act.put, List.setIfInBounds_toArray, List.set_cons_zero, List.set_cons_succ, i64_w, i32_w]
    rfl
  refine one_ (i := 57) (N := (some 104)) #[true, true, true, true, true, true, true, true, true, true, true, true, true, true, true, true, true, true, true, true, true, true, true, true, true, true, true, true, true, true, true, true, true, true, true, true, true, true, true, true, true, true, true, true, true, true, true, true, true, true, true, true, true, true, true, true, true, true, false, false, false, false] rfl rfl (by kernel_rfl) (by decide) (fun K hK => ?_)
  refine Kd.R_lit_step k24 _ 24 ?hg (N := 104) ?hd (xs := [oth, hOd 7 2 10 500]) (inner := [.int .i64 7, .string (⟨#[97, 110, 110, 97]⟩ : ByteArray), .string (⟨#[115, 104, 111, 112]⟩ : ByteArray), .int .i64 2, .int .i64 30, .int .i64 0, .int .i64 0, .bool false, .int .i64 7, .string (⟨#[97, 110, 110, 97]⟩ : ByteArray), .string (⟨#[98, 97, 110, 107]⟩ : ByteArray), .int .i64 2, .int .i64 10, .int .i64 0, .int .i64 500, .bool false]) (ok := fun _ => True) (okp := fun _ => True) ?hr ?hp (fun _ hk => hk) trivial (Below.refl _ _) (Nat.le_refl _) (by simp) ?_
  case hd => rfl
  case hg => rfl
  case hr => first | (go_simp; done) | (go_simp; rfl)
  case hp => exact (Reps.c8 (show Kd.M k24 _ _ _ oth [.int .i64 7, .string (⟨#[97, 110, 110, 97]⟩ : ByteArray), .string (⟨#[115, 104, 111, 112]⟩ : ByteArray), .int .i64 2, .int .i64 30, .int .i64 0, .int .i64 0, .bool false] from (k24_mkM _ _ _ oth)) (Reps.c8 (show Kd.M k24 _ _ _ (hOd 7 2 10 500) [.int .i64 7, .string (⟨#[97, 110, 110, 97]⟩ : ByteArray), .string (⟨#[98, 97, 110, 107]⟩ : ByteArray), .int .i64 2, .int .i64 10, .int .i64 0, .int .i64 500, .bool false] from (k24_mkM _ _ _ (hOd 7 2 10 500))) (Reps.none _ _)))
  intro vx wx hRx hbx hgx hatx
  obtain ⟨Ax, cx, ex⟩ := Kd.R_slice hRx
  obtain rfl : vx = .slice Ax 2 cx := ex
  have HX := Lib.hid (Kd.R_reads' hRx).2
  have hHeld2 := below_step hHeld hbx
  clear hRx hbx hgx hatx hHeld
  refine hK.out _ _ hHeld2 (fun hHeld => ?_)
  clear hK K hHeld2
  refine norm_ (a' := ?_) ?_ ?_
  rotate_left
  · show Act.put _ (some 104) _ = _
    simp only [Act.put, List.setIfInBounds_toArray, List.set_cons_zero, List.set_cons_succ, i64_w, i32_w]
    rfl
  refine one_ (i := 58) (N := (some 105)) #[true, true, true, true, true, true, true, true, true, true, true, true, true, true, true, true, true, true, true, true, true, true, true, true, true, true, true, true, true, true, true, true, true, true, true, true, true, true, true, true, true, true, true, true, true, true, true, true, true, true, true, true, true, true, true, true, true, true, true, false, false, false] rfl rfl (by kernel_rfl) (by decide) (fun K hK => ?_)
  refine goes_ Try.func14 (by kernel_rfl) rfl #[.slice Ax 2 cx] (by rfl) rfl rfl (by (try simp only [List.map_toArray, List.map_cons, List.map_nil]); first | done | rfl) ?_
  with_reducible refine (valid_n Ax 2 cx [oth, hOd 7 2 10 500] false _ HX.out.2 rfl HX.out.1 HY.out.2.2.2.2.2.2.1.2).mono ?_
  rintro e w' ⟨rfl, hb⟩
  refine ⟨_, rfl, ?_⟩
  refine hK.out _ _ (below_step hHeld hb) (fun hHeld => ?_)
  clear hK K
  clear hb
  refine norm_ (a' := ?_) ?_ ?_
  rotate_left
  · show Act.put _ (some 105) _ = _
    simp only [Act.put, List.setIfInBounds_toArray, List.set_cons_zero, List.set_cons_succ, i64_w, i32_w]
    rfl
  refine pure_ (i := 59) (N := (some 106)) (v := ?_) (a' := ?_) #[true, true, true, true, true, true, true, true, true, true, true, true, true, true, true, true, true, true, true, true, true, true, true, true, true, true, true, true, true, true, true, true, true, true, true, true, true, true, true, true, true, true, true, true, true, true, true, true, true, true, true, true, true, true, true, true, true, true, true, true, false, false] rfl rfl (by kernel_rfl) (fun _ _ _ h => h) (Or.inl ⟨by rfl, ?_⟩) ?_ ?_
  rotate_left
  · intro w'
    go_simp
    with_reducible rfl
  rotate_left
  · simp only [Act.put, List.setIfInBounds_toArray, List.set_cons_zero, List.set_cons_succ, i64_w, i32_w]
    rfl
  refine pure_ (i := 60) (N := (some 107)) (v := ?_) (a' := ?_) #[true, true, true, true, true, true, true, true, true, true, true, true, true, true, true, true, true, true, true, true, true, true, true, true, true, true, true, true, true, true, true, true, true, true, true, true, true, true, true, true, true, true, true, true, true, true, true, true, true, true, true, true, true, true, true, true, true, true, true, true, true, false] rfl rfl (by kernel_rfl) (fun _ _ _ h => h) (Or.inl ⟨by rfl, ?_⟩) ?_ ?_
  rotate_left
  · intro w'
    go_simp
    with_reducible rfl
  rotate_left
  · simp only [Act.put, List.setIfInBounds_toArray, List.set_cons_zero, List.set_cons_succ, i64_w, i32_w]
    rfl
  refine pure_ (i := 61) (N := (some 0)) (v := ?_) (a' := ?_) #[true, true, true, true, true, true, true, true, true, true, true, true, true, true, true, true, true, true, true, true, true, true, true, true, true, true, true, true, true, true, true, true, true, true, true, true, true, true, true, true, true, true, true, true, true, true, true, true, true, true, true, true, true, true, true, true, true, true, true, true, true, true] rfl rfl (by kernel_rfl) (fun _ _ _ h => h) (Or.inl ⟨by rfl, ?_⟩) ?_ ?_
  rotate_left
  · intro w'
    go_simp
    with_reducible rfl
  rotate_left
  · simp only [Act.put, List.setIfInBounds_toArray, List.set_cons_zero, List.set_cons_succ, i64_w, i32_w]
    rfl
  refine done_ (by kernel_rfl) ?_
  go_wp2_with fail
  go_ret
  exact ⟨rfl, below_step HP13.out.1.1.1.1.1.1 hHeld⟩
theorem wageofficelaw31_head.calls (r : Bool) (w : World) (h : wageofficelaw31_head.f = some r) : Calls Try.prog 10 #[] w fun e w' => e = .returned (.bool r) ∧ Below w.heap.size w w' := by
  injection h with h
  subst h
  exact head_any w
end Go.Proofs.Ytgbcihbnaecejaa.Q

namespace Go.Proofs.Ytgbcihbnaecejaa.Q
open Go Go.RowKit Go.Proofs.YtgbcihbnaecejaaW.PrintWords Go.Proofs.YtgbcihbnaecejaaW.PrintLast Go.Proofs.YtgbcihbnaecejaaW.PrintMore
set_option linter.unusedVariables false
set_option linter.unusedSimpArgs false
theorem bt_nat {s : ByteArray} {i : Nat} (h : i < s.size) : bt s (i : Int) = ((s[i]'h).toNat : Int) := by
  unfold bt
  simp [h]
theorem rname_step {s : ByteArray} {i : Nat} (h : i < s.size) (hb : s.size ≤ 16) (k : Nat) : wageofficeref31_Name.l0 (k + 1) s (i : Int) = if nbad (s[i]'h).toNat = true then some false else wageofficeref31_Name.l0 k s ((i + 1 : Nat) : Int) := by
  simp only [wageofficeref31_Name.l0]
  rw [if_pos (by omega), if_pos (by omega), bt_nat h]
  have w1 : wrap64 ((i : Int) + 1) = ((i + 1 : Nat) : Int) := by unfold wrap64; omega
  rw [w1]
  generalize (s[i]'h).toNat = c
  unfold nbad
  by_cases h0 : c = 95
  · subst h0
    simp
  · have h0' : ¬ (c : Int) = 95 := by omega
    by_cases h1 : c < 48 <;> by_cases h2 : 57 < c <;> by_cases h3 : c < 97 <;> by_cases h4 : 122 < c <;> first | (exfalso; omega) | skip
    all_goals
      have z1 : (c : Int) < 48 ↔ c < 48 := by omega
      have z2 : (57 : Int) < (c : Int) ↔ 57 < c := by omega
      have z3 : (c : Int) < 97 ↔ c < 97 := by omega
      have z4 : (122 : Int) < (c : Int) ↔ 122 < c := by omega
      simp [h0, h0', h1, h2, h3, h4, z1, z2, z3, z4]
theorem rname_loop (s : ByteArray) (hb : s.size ≤ 16) : ∀ (d i : Nat), s.size - i = d → i ≤ s.size → Ev (fun k => wageofficeref31_Name.l0 k s (i : Int)) (decide (∀ j, ∀ h : j < s.size, i ≤ j → nbad (s[j]'h).toNat = false)) := by
  intro d
  induction d with
  | zero =>
    intro i hd hi
    refine Ev.step (f := fun _ => some true) (fun k => ?_) ?_
    · simp only [wageofficeref31_Name.l0]
      rw [if_neg (by omega)]
    · rw [decide_eq_true (fun j h hj => by omega)]
      exact Ev.now _
  | succ d ih =>
    intro i hd hi
    have hlt : i < s.size := by omega
    by_cases hn : nbad (s[i]'hlt).toNat = true
    · refine Ev.step (f := fun _ => some false) (fun k => by rw [rname_step hlt hb, if_pos hn]) ?_
      rw [decide_eq_false (fun h => by have := h i hlt (Nat.le_refl _); rw [hn] at this; cases this)]
      exact Ev.now _
    · refine Ev.step (f := fun k => wageofficeref31_Name.l0 k s ((i + 1 : Nat) : Int)) (fun k => by rw [rname_step hlt hb, if_neg hn]) ?_
      have := ih (i + 1) (by omega) (by omega)
      have e : decide (∀ j, ∀ h : j < s.size, i ≤ j → nbad (s[j]'h).toNat = false) = decide (∀ j, ∀ h : j < s.size, i + 1 ≤ j → nbad (s[j]'h).toNat = false) := by
        rw [Bool.eq_iff_iff, decide_eq_true_iff, decide_eq_true_iff]
        constructor
        · exact fun h j hj h1 => h j hj (by omega)
        · intro h j hj h1
          rcases Nat.eq_or_lt_of_le h1 with e | e
          · subst e
            simpa using hn
          · exact h j hj e
      rw [e]
      exact this
theorem rname (s : ByteArray) : Ev (fun k => wageofficeref31_Name.f k s) (nameOk s) := by
  have jt : Ev (fun k => wageofficeref31_Name.j0 k s true) false := Ev.step (f := fun _ => some false) (fun k => by simp only [wageofficeref31_Name.j0]; rw [if_pos trivial]) (Ev.now _)
  by_cases h0 : s.size < 1
  · rw [nameOk_no (fun h => by omega)]
    exact Ev.congr (fun k => by unfold wageofficeref31_Name.f; rw [if_pos (by omega)]) jt
  · by_cases h1 : 16 < s.size
    · rw [nameOk_no (fun _ h => by omega)]
      exact Ev.congr (fun k => by unfold wageofficeref31_Name.f; rw [if_neg (by omega), if_pos (by omega)]) jt
    · have hp : 0 < s.size := by omega
      have hb0 : bt s 0 = ((s[0]'hp).toNat : Int) := bt_nat hp
      by_cases h2 : (s[0]'hp).toNat < 97
      · rw [nameOk_no (fun _ _ h => by omega)]
        exact Ev.congr (fun k => by unfold wageofficeref31_Name.f; rw [if_neg (by omega), if_neg (by omega), if_pos (by omega), hb0, if_pos (by omega)]) jt
      · have e1 : ∀ k, wageofficeref31_Name.f k s = wageofficeref31_Name.j0 k s (decide (((s[0]'hp).toNat : Int) > 122)) := fun k => by unfold wageofficeref31_Name.f; rw [if_neg (by omega), if_neg (by omega), if_pos (by omega), hb0, if_neg (by omega)]
        refine Ev.congr e1 ?_
        by_cases h3 : 122 < (s[0]'hp).toNat
        · rw [nameOk_no (fun _ _ _ h => by omega), decide_eq_true (by omega)]
          exact jt
        · rw [decide_eq_false (by omega)]
          refine Ev.step (f := fun k => wageofficeref31_Name.l0 k s ((0 : Nat) : Int)) (fun k => by simp only [wageofficeref31_Name.j0]; rw [if_neg (by simp)]; rfl) ?_
          have h := rname_loop s (by omega) _ 0 rfl (Nat.zero_le _)
          have e : nameOk s = decide (∀ j, ∀ h : j < s.size, 0 ≤ j → nbad (s[j]'h).toNat = false) := by
            rw [Bool.eq_iff_iff, nameOk_iff, decide_eq_true_iff]
            exact ⟨fun h j hj _ => h.2 j hj, fun h => ⟨⟨hp, by omega, by omega, by omega⟩, fun j hj => h j hj (Nat.zero_le _)⟩⟩
          rw [e]
          exact h
theorem rformed (o : Od) : Ev (fun k => wageofficeref31_Formed.f k o.f0 o.f1 o.f2 o.f3 o.f4 o.f5 o.f6 o.f7) (formedOk o) := by
  obtain ⟨K, hK⟩ := rname o.f1
  obtain ⟨K', hK'⟩ := rname o.f2
  refine ⟨max K K', fun k hk => ?_⟩
  have e1 := hK k (by omega)
  have e2 := hK' k (by omega)
  unfold wageofficeref31_Formed.f formedOk
  simp only [e1, e2, Option.bind_some]
  by_cases h1 : 1 ≤ o.f0
  · by_cases h2 : o.f0 ≤ 1000000
    · rw [if_pos h1, if_pos h2, decide_eq_true (show 1 ≤ o.f0 ∧ o.f0 ≤ 1000000 from ⟨h1, h2⟩)]
      cases nameOk o.f1 <;> cases nameOk o.f2 <;> try rfl
      by_cases h3 : 0 ≤ o.f3 <;> by_cases h4 : o.f3 ≤ 1000000 <;> by_cases h5 : 0 ≤ o.f4 <;> by_cases h6 : o.f4 ≤ 36524 <;> by_cases h7 : 0 ≤ o.f5 <;> by_cases h8 : o.f5 ≤ 1199 <;> by_cases h9 : 0 ≤ o.f6 <;> simp [h3, h4, h5, h6, h7, h8, h9]
    · rw [if_pos h1, if_neg h2, decide_eq_false (fun h => h2 h.2)]
      simp
  · rw [if_neg h1, decide_eq_false (fun h => h1 h.1)]
    simp
theorem rformed_b {o : Od} {b : Bool} (h : formedOk o = b) (w : World) : Calls Try.prog 24 #[.agg #[.int .i64 o.f0, .string o.f1, .string o.f2, .int .i64 o.f3, .int .i64 o.f4, .int .i64 o.f5, .int .i64 o.f6, .bool o.f7]] w fun e w' => e = .returned (.bool b) ∧ Below w.heap.size w w' := by
  subst h
  obtain ⟨k, hk⟩ := (rformed o).rounds
  exact wageofficeref31_Formed.calls k _ _ _ _ _ _ _ _ _ w hk
theorem rd_at (l : List Od) (i : Nat) : rd_T24 l (i : Int) = odAt l i := rfl
theorem rnum_in (l : List Od) (p : ByteArray) (hl : l.length ≤ 1000) (n i : Nat) (hi : i < l.length) (r : Int) : ∀ (d j : Nat) (b : Bool), i - j = d → j ≤ i → (b = true ↔ (odAt l i).f1 = p ∧ newIn (l.take j) (odAt l i) = true) →
    Ev (fun k => wageofficeref31_Numbers.l0 k l p ((n + if (odAt l i).f1 = p ∧ newIn (l.take i) (odAt l i) = true then 1 else 0 : Nat) : Int) ((i + 1 : Nat) : Int)) r → n ≤ 1000 → Ev (fun k => wageofficeref31_Numbers.l1 k l p (n : Int) (i : Int) b (j : Int)) r := by
  intro d
  have w1 : wrap64 ((i : Int) + 1) = ((i + 1 : Nat) : Int) := by unfold wrap64; omega
  induction d with
  | zero =>
    intro j b hd hj hb h hn
    obtain rfl : j = i := by omega
    have w2 : wrap64 ((n : Int) + 1) = ((n + 1 : Nat) : Int) := by unfold wrap64; omega
    cases b with
    | true =>
      rw [if_pos (hb.1 rfl)] at h
      refine Ev.step (fun k => ?_) h
      simp only [wageofficeref31_Numbers.l1]
      rw [if_neg (by omega), if_pos trivial, w1, w2]
    | false =>
      rw [if_neg (fun hh => by have := hb.2 hh; cases this), Nat.add_zero] at h
      refine Ev.step (fun k => ?_) h
      simp only [wageofficeref31_Numbers.l1]
      rw [if_neg (by omega), if_neg (by simp), w1]
  | succ d ih =>
    intro j b hd hj hb h hn
    have w2 : wrap64 ((j : Int) + 1) = ((j + 1 : Nat) : Int) := by unfold wrap64; omega
    cases b with
    | true =>
      have h1 := hb.1 rfl
      refine Ev.step (fun k => ?_) (ih (j + 1) ((odAt l j).f0 != (odAt l i).f0) (by omega) (by omega) ?_ h hn)
      · simp only [wageofficeref31_Numbers.l1]
        rw [if_pos (by omega), if_pos trivial, if_pos (by omega), if_pos (by omega), if_pos (by omega), if_pos (by omega), w2, rd_at, rd_at]
      · rw [take_odAt (by omega)]
        simp only [bne_iff_ne, newIn, List.all_append, List.all_cons, List.all_nil, Bool.and_true, Bool.and_eq_true, decide_eq_true_eq]
        constructor
        · intro hne
          refine ⟨h1.1, ?_, hne⟩
          have := h1.2
          unfold newIn at this
          exact this
        · exact fun hh => hh.2.2
    | false =>
      rw [if_neg (fun hh => ?_), Nat.add_zero] at h
      · refine Ev.step (fun k => ?_) h
        simp only [wageofficeref31_Numbers.l1]
        rw [if_pos (by omega), if_neg (by simp), w1]
      · have : false = true := hb.2 ⟨hh.1, newIn_iff.2 fun x hx => newIn_iff.1 hh.2 x ?_⟩
        · cases this
        · have : l.take j = (l.take i).take j := by rw [List.take_take, Nat.min_eq_left hj]
          rw [this] at hx
          exact List.mem_of_mem_take hx
theorem nums_take {l : List Od} {i : Nat} (hi : i < l.length) (p : ByteArray) : nums p [] (l.take (i + 1)) = nums p [] (l.take i) + if (odAt l i).f1 = p ∧ newIn (l.take i) (odAt l i) = true then 1 else 0 := by
  rw [take_odAt hi, nums_snoc]
theorem rnum_out (l : List Od) (p : ByteArray) (hl : l.length ≤ 1000) : ∀ (d i : Nat), l.length - i = d → i ≤ l.length → Ev (fun k => wageofficeref31_Numbers.l0 k l p ((nums p [] (l.take i) : Nat) : Int) (i : Int)) ((nums p [] l : Nat) : Int) := by
  intro d
  induction d with
  | zero =>
    intro i hd hi
    obtain rfl : i = l.length := by omega
    rw [List.take_length]
    refine Ev.step (f := fun _ => some _) (fun k => ?_) (Ev.now _)
    simp only [wageofficeref31_Numbers.l0]
    rw [if_neg (by omega)]
  | succ d ih =>
    intro i hd hi
    have hlt : i < l.length := by omega
    have hb := ih (i + 1) (by omega) (by omega)
    rw [nums_take hlt] at hb
    have hn : nums p [] (l.take i) ≤ 1000 := Nat.le_trans (nums_le p _ _) (by rw [List.length_take]; omega)
    refine Ev.step (fun k => ?_) (rnum_in l p hl _ i hlt _ i 0 ((odAt l i).f1.toList == p.toList) (by omega) (Nat.zero_le _) ?_ hb hn)
    · simp only [wageofficeref31_Numbers.l0]
      rw [if_pos (by omega), if_pos (by omega), rd_at]
      rfl
    · rw [beq_iff_eq, str_eq]
      simp [newIn]
theorem rnumbers (l : List Od) (p : ByteArray) (hl : l.length ≤ 1000) : Ev (fun k => wageofficeref31_Numbers.f k l p) ((nums p [] l : Nat) : Int) := rnum_out l p hl _ 0 rfl (Nat.zero_le _)
theorem rnumbers_c (A0 : Option Addr) (c0 : Nat) (l : List Od) (p : ByteArray) (hl : l.length ≤ 1000) (w : World) (hr : Kd.C k24 w A0 l.length l) (hc : l.length ≤ c0) : Calls Try.prog 25 #[.slice A0 l.length c0, .string p] w fun e w' => e = .returned (.int .i64 (nums p [] l : Nat)) ∧ Below w.heap.size w w' := by
  obtain ⟨k, hk⟩ := (rnumbers l p hl).rounds
  refine (wageofficeref31_Numbers.calls k A0 c0 l p _ w hr hc hk).mono fun e w' h => ⟨h.1, ?_⟩
  obtain ⟨n, rfl⟩ := h.2.out
  exact pw_below_drewN (Below.refl _ _) n
end Go.Proofs.Ytgbcihbnaecejaa.Q
