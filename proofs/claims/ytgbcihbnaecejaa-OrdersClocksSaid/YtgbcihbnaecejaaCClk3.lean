/- OrdersClocks returns true for every list of orders, order, person, month and day: whatever its arguments read as, there is no condition.
   The walk of the law's code and its plain law (merged by wip/tools/trim.py out of own texts and of texts that the kit's printer wrote). -/
import Derived.Test.YtgbcihbnaecejaaCClk2
import Derived.Outline
import Derived.IntWalk
import Derived.Deep.QuietTactic
import Derived.BigQuiet
import Derived.RangeFuncNested
import Derived.RangeFuncBox
import Derived.RangeFuncCalls
import Derived.RangeFuncLeaves
import Derived.Below
import Derived.OrdersHeld
import Derived.Deep.RegionHeld3
import Derived.TacticsIn
import Derived.Maps.RangeWalk
import Derived.StringKeys
import Derived.Deep.RegionWith
import Derived.Sort.OwnSorted
import Derived.Shelf.SlSortCmp.NoneTotal
import Derived.Ground.SlsfProg
import Derived.Shelf.SlSortCmp.WholeK
import Derived.Test.YtgbcihbnaecejaaProg
import Derived.WalkSpells
import Derived.Shelf.SlicesQ.IndexFunc
import Derived.Ground.SlgfProg
namespace Go.Proofs.Ytgbcihbnaecejaa.Q
open Go Go.RowKit Go.Proofs.YtgbcihbnaecejaaW.PrintWords Go.Proofs.YtgbcihbnaecejaaW.PrintLast Go.Proofs.YtgbcihbnaecejaaW.PrintMore
set_option linter.unusedVariables false
set_option linter.unusedSimpArgs false
def wageofficeref31_Valid.f (l0 : List Od) : Option (Bool) := some (valid l0)
def RInv (l : List Od) (w : World) (k : Nat) (wr : World) : Prop := validFrom [] (l.take k) = true ∧ Below w.heap.size w wr
def RIn (l : List Od) (w : World) (o : Od) (j : Nat) (wr : World) : Prop := (∀ x ∈ l.take j, x.f0 = o.f0 → x.f1 = o.f1 ∧ x.f2 = o.f2) ∧ Below w.heap.size w wr
theorem newIn_snoc (pre : List Od) (x o : Od) : newIn (pre ++ [x]) o = (newIn pre o && (x.f0 != o.f0)) := by
  unfold newIn
  rw [List.all_append]
  congr 1
  simp only [List.all_cons, List.all_nil, Bool.and_true]
  rw [Bool.eq_iff_iff, decide_eq_true_iff, bne_iff_ne]
theorem numsC (A0 : Option Addr) (c0 : Nat) (l : List Od) (p : ByteArray) (n : Nat) (hl : l.length ≤ 400) (hn : n ≤ l.length) (w : World) (hr : Kd.C k24 w A0 l.length l) (hc : l.length ≤ c0) : Calls Try.prog 25 #[.slice A0 n c0, .string p] w fun e w' => e = .returned (.int .i64 (nums p [] (l.take n) : Nat)) ∧ Below w.heap.size w w' := by
  have e : (l.take n).length = n := by rw [List.length_take]; omega
  have h := rnumbers_c A0 c0 (l.take n) p (by omega) w (Kd.C_take hr hn) (by omega)
  rwa [e] at h
set_option maxRecDepth 100000 in
set_option maxHeartbeats 8000000 in
theorem rvalid_any (A0 : Option Addr) (c0 : Nat) (l0 : List Od) (w : World) (hr0 : Kd.C k24 w A0 l0.length l0) (hc0 : l0.length ≤ c0) :
    Calls Try.prog 15 #[.slice A0 l0.length c0] w fun e w' => e = .returned (.bool (valid l0)) ∧ Below w.heap.size w w' := by
  have HC := Lib.hid hr0
  have HL := Lib.hid hc0
  clear hr0 hc0
  by_cases hlen : l0.length ≤ 400
  · go_enter Try.func15, Try.ntmps15
    go_wp2
    go_loopw [3] (fun i wr => ∃ k : Nat, k ≤ l0.length ∧ i = .int .i64 k ∧ RInv l0 w k wr) (fun i _ => l0.length - (intOf i).toNat)
    case atStart => exact ⟨0, Nat.zero_le _, rfl, rfl, Below.refl _ _⟩
    case round =>
      obtain ⟨k, hk, rfl, hI⟩ := hrel
      by_cases hlt : k < l0.length
      · have HB := Lib.hid hI.2
        have HCW := Lib.hid (Kd.C_below HC.out HB.out)
        obtain ⟨ad, rfl, a0, a1, a2, a3, a4, a5, a6, a7⟩ := od_cells HCW.out hlt
        generalize ho : odAt l0 k = o at *
        have HO := Lib.hid ho
        have HI := Lib.hid hI
        clear ho hI
        cases hf : formedOk o with
        | false =>
          have HF := Lib.hid (rformed_b hf)
          have HV := Lib.hid (valid_stop hlt (by rw [HO.out]; unfold okNext; rw [hf]; rfl))
          clear hf
          go_wp2_with fail
          refine start_ (n := 24) (S := fun W => Below wr.heap.size wr W) (ds := []) #[false, false, false, false, false, false, false, false, false, false, false, false, false, false, false, false, false, false, false, false, false, false, false, false] (by kernel_rfl) rfl rfl (below_drew1 (Below.refl _ _)) (fun hHeld => ?_)
          refine pure_ (i := 0) (N := (some 15)) (v := ?_) (a' := ?_) #[true, false, false, false, false, false, false, false, false, false, false, false, false, false, false, false, false, false, false, false, false, false, false, false] rfl rfl (by kernel_rfl) (fun _ _ _ h => h) (Or.inl ⟨by rfl, ?_⟩) ?_ ?_
          rotate_left
          · intro w'
            go_simp
            with_reducible rfl
          rotate_left
          · simp only [Act.put, List.setIfInBounds_toArray, List.set_cons_zero, List.set_cons_succ, i64_w, i32_w]
            rfl
          refine pure_ (i := 1) (N := (some 16)) (v := ?_) (a' := ?_) #[true, true, false, false, false, false, false, false, false, false, false, false, false, false, false, false, false, false, false, false, false, false, false, false] rfl rfl (by kernel_rfl) (fun _ _ _ h => h) (Or.inl ⟨by rfl, ?_⟩) ?_ ?_
          rotate_left
          · intro w'
            go_simp
            with_reducible rfl
          rotate_left
          · simp only [Act.put, List.setIfInBounds_toArray, List.set_cons_zero, List.set_cons_succ, i64_w, i32_w]
            rfl
          refine pure_ (i := 2) (N := (some 17)) (v := ?_) (a' := ?_) #[true, true, true, false, false, false, false, false, false, false, false, false, false, false, false, false, false, false, false, false, false, false, false, false] rfl rfl (by kernel_rfl) (fun _ _ _ h => h) (Or.inl ⟨by rfl, ?_⟩) ?_ ?_
          rotate_left
          · intro w'
            go_simp
            with_reducible rfl
          rotate_left
          · simp only [Act.put, List.setIfInBounds_toArray, List.set_cons_zero, List.set_cons_succ, i64_w, i32_w]
            rfl
          refine take_ (i := 3) (N := (some 18)) (v := ?_) (a' := ?_) #[true, true, true, true, false, false, false, false, false, false, false, false, false, false, false, false, false, false, false, false, false, false, false, false] rfl rfl (by kernel_rfl) (fun _ _ _ h => h) (Or.inl ⟨by rfl, ?_⟩) hHeld ?_ ?_
          rotate_left
          · rintro w' sb
            have c0 := pw_cell_below sb a0
            have c1 := pw_cell_below sb a1
            have c2 := pw_cell_below sb a2
            have c3 := pw_cell_below sb a3
            have c4 := pw_cell_below sb a4
            have c5 := pw_cell_below sb a5
            have c6 := pw_cell_below sb a6
            have c7 := pw_cell_below sb a7
            clear sb
            go_simp
            with_reducible rfl
          rotate_left
          · simp only [Act.put, List.setIfInBounds_toArray, List.set_cons_zero, List.set_cons_succ, i64_w, i32_w]
            rfl
          refine one_ (i := 4) (N := (some 19)) #[true, true, true, true, true, false, false, false, false, false, false, false, false, false, false, false, false, false, false, false, false, false, false, false] rfl rfl (by kernel_rfl) (by decide) (fun K hK => ?_)
          refine goes_ Try.func24 (by kernel_rfl) rfl #[odV o] (by rfl) rfl rfl (by (try simp only [List.map_toArray, List.map_cons, List.map_nil]); first | done | rfl) ?_
          with_reducible refine (HF.out _).mono ?_
          rintro e w' ⟨rfl, hb⟩
          refine ⟨_, rfl, ?_⟩
          refine hK.out _ _ (below_step hHeld hb) (fun hHeld => ?_)
          clear hK K
          clear hb
          refine norm_ (a' := ?_) ?_ ?_
          rotate_left
          · show Act.put _ (some 19) _ = _
            simp only [Act.put, List.setIfInBounds_toArray, List.set_cons_zero, List.set_cons_succ, i64_w, i32_w]
            rfl
          refine pure_ (i := 5) (N := (some 20)) (v := ?_) (a' := ?_) #[true, true, true, true, true, true, false, false, false, false, false, false, false, false, false, false, false, false, false, false, false, false, false, false] rfl rfl (by kernel_rfl) (fun _ _ _ h => h) (Or.inl ⟨by rfl, ?_⟩) ?_ ?_
          rotate_left
          · intro w'
            go_simp
            with_reducible rfl
          rotate_left
          · simp only [Act.put, List.setIfInBounds_toArray, List.set_cons_zero, List.set_cons_succ, i64_w, i32_w]
            rfl
          refine pure_ (i := 6) (N := (some 21)) (v := ?_) (a' := ?_) #[true, true, true, true, true, true, true, false, false, false, false, false, false, false, false, false, false, false, false, false, false, false, false, false] rfl rfl (by kernel_rfl) (fun _ _ _ h => h) (Or.inl ⟨by rfl, ?_⟩) ?_ ?_
          rotate_left
          · intro w'
            go_simp
            with_reducible rfl
          rotate_left
          · simp only [Act.put, List.setIfInBounds_toArray, List.set_cons_zero, List.set_cons_succ, i64_w, i32_w]
            rfl
          refine pure_ (i := 7) (N := (some 22)) (v := undef) (a' := ?_) #[true, true, true, true, true, true, true, true, false, false, false, false, false, false, false, false, false, false, false, false, false, false, false, false] rfl rfl (by kernel_rfl) (fun _ _ _ h => h) (Or.inr ⟨by rfl, rfl⟩) ?_ ?_
          rotate_left
          · simp only [Act.put, List.setIfInBounds_toArray, List.set_cons_zero, List.set_cons_succ, i64_w, i32_w]
            rfl
          refine pure_ (i := 8) (N := (some 23)) (v := undef) (a' := ?_) #[true, true, true, true, true, true, true, true, true, false, false, false, false, false, false, false, false, false, false, false, false, false, false, false] rfl rfl (by kernel_rfl) (fun _ _ _ h => h) (Or.inr ⟨by rfl, rfl⟩) ?_ ?_
          rotate_left
          · simp only [Act.put, List.setIfInBounds_toArray, List.set_cons_zero, List.set_cons_succ, i64_w, i32_w]
            rfl
          refine pure_ (i := 9) (N := (some 24)) (v := undef) (a' := ?_) #[true, true, true, true, true, true, true, true, true, true, false, false, false, false, false, false, false, false, false, false, false, false, false, false] rfl rfl (by kernel_rfl) (fun _ _ _ h => h) (Or.inr ⟨by rfl, rfl⟩) ?_ ?_
          rotate_left
          · simp only [Act.put, List.setIfInBounds_toArray, List.set_cons_zero, List.set_cons_succ, i64_w, i32_w]
            rfl
          refine pure_ (i := 10) (N := (some 25)) (v := undef) (a' := ?_) #[true, true, true, true, true, true, true, true, true, true, true, false, false, false, false, false, false, false, false, false, false, false, false, false] rfl rfl (by kernel_rfl) (fun _ _ _ h => h) (Or.inr ⟨by rfl, rfl⟩) ?_ ?_
          rotate_left
          · simp only [Act.put, List.setIfInBounds_toArray, List.set_cons_zero, List.set_cons_succ, i64_w, i32_w]
            rfl
          refine pure_ (i := 11) (N := (some 26)) (v := undef) (a' := ?_) #[true, true, true, true, true, true, true, true, true, true, true, true, false, false, false, false, false, false, false, false, false, false, false, false] rfl rfl (by kernel_rfl) (fun _ _ _ h => h) (Or.inr ⟨by rfl, rfl⟩) ?_ ?_
          rotate_left
          · simp only [Act.put, List.setIfInBounds_toArray, List.set_cons_zero, List.set_cons_succ, i64_w, i32_w]
            rfl
          refine pure_ (i := 12) (N := (some 27)) (v := undef) (a' := ?_) #[true, true, true, true, true, true, true, true, true, true, true, true, true, false, false, false, false, false, false, false, false, false, false, false] rfl rfl (by kernel_rfl) (fun _ _ _ h => h) (Or.inr ⟨by rfl, rfl⟩) ?_ ?_
          rotate_left
          · simp only [Act.put, List.setIfInBounds_toArray, List.set_cons_zero, List.set_cons_succ, i64_w, i32_w]
            rfl
          refine pure_ (i := 13) (N := (some 28)) (v := undef) (a' := ?_) #[true, true, true, true, true, true, true, true, true, true, true, true, true, true, false, false, false, false, false, false, false, false, false, false] rfl rfl (by kernel_rfl) (fun _ _ _ h => h) (Or.inr ⟨by rfl, rfl⟩) ?_ ?_
          rotate_left
          · simp only [Act.put, List.setIfInBounds_toArray, List.set_cons_zero, List.set_cons_succ, i64_w, i32_w]
            rfl
          refine pure_ (i := 14) (N := (some 29)) (v := undef) (a' := ?_) #[true, true, true, true, true, true, true, true, true, true, true, true, true, true, true, false, false, false, false, false, false, false, false, false] rfl rfl (by kernel_rfl) (fun _ _ _ h => h) (Or.inr ⟨by rfl, rfl⟩) ?_ ?_
          rotate_left
          · simp only [Act.put, List.setIfInBounds_toArray, List.set_cons_zero, List.set_cons_succ, i64_w, i32_w]
            rfl
          refine pure_ (i := 15) (N := (some 30)) (v := undef) (a' := ?_) #[true, true, true, true, true, true, true, true, true, true, true, true, true, true, true, true, false, false, false, false, false, false, false, false] rfl rfl (by kernel_rfl) (fun _ _ _ h => h) (Or.inr ⟨by rfl, rfl⟩) ?_ ?_
          rotate_left
          · simp only [Act.put, List.setIfInBounds_toArray, List.set_cons_zero, List.set_cons_succ, i64_w, i32_w]
            rfl
          refine pure_ (i := 16) (N := (some 31)) (v := undef) (a' := ?_) #[true, true, true, true, true, true, true, true, true, true, true, true, true, true, true, true, true, false, false, false, false, false, false, false] rfl rfl (by kernel_rfl) (fun _ _ _ h => h) (Or.inr ⟨by rfl, rfl⟩) ?_ ?_
          rotate_left
          · simp only [Act.put, List.setIfInBounds_toArray, List.set_cons_zero, List.set_cons_succ, i64_w, i32_w]
            rfl
          refine pure_ (i := 17) (N := (some 32)) (v := undef) (a' := ?_) #[true, true, true, true, true, true, true, true, true, true, true, true, true, true, true, true, true, true, false, false, false, false, false, false] rfl rfl (by kernel_rfl) (fun _ _ _ h => h) (Or.inr ⟨by rfl, rfl⟩) ?_ ?_
          rotate_left
          · simp only [Act.put, List.setIfInBounds_toArray, List.set_cons_zero, List.set_cons_succ, i64_w, i32_w]
            rfl
          refine pure_ (i := 18) (N := (some 33)) (v := undef) (a' := ?_) #[true, true, true, true, true, true, true, true, true, true, true, true, true, true, true, true, true, true, true, false, false, false, false, false] rfl rfl (by kernel_rfl) (fun _ _ _ h => h) (Or.inr ⟨by rfl, rfl⟩) ?_ ?_
          rotate_left
          · simp only [Act.put, List.setIfInBounds_toArray, List.set_cons_zero, List.set_cons_succ, i64_w, i32_w]
            rfl
          refine pure_ (i := 19) (N := (some 34)) (v := undef) (a' := ?_) #[true, true, true, true, true, true, true, true, true, true, true, true, true, true, true, true, true, true, true, true, false, false, false, false] rfl rfl (by kernel_rfl) (fun _ _ _ h => h) (Or.inr ⟨by rfl, rfl⟩) ?_ ?_
          rotate_left
          · simp only [Act.put, List.setIfInBounds_toArray, List.set_cons_zero, List.set_cons_succ, i64_w, i32_w]
            rfl
          refine pure_ (i := 20) (N := (some 35)) (v := undef) (a' := ?_) #[true, true, true, true, true, true, true, true, true, true, true, true, true, true, true, true, true, true, true, true, true, false, false, false] rfl rfl (by kernel_rfl) (fun _ _ _ h => h) (Or.inr ⟨by rfl, rfl⟩) ?_ ?_
          rotate_left
          · simp only [Act.put, List.setIfInBounds_toArray, List.set_cons_zero, List.set_cons_succ, i64_w, i32_w]
            rfl
          refine pure_ (i := 21) (N := (some 36)) (v := undef) (a' := ?_) #[true, true, true, true, true, true, true, true, true, true, true, true, true, true, true, true, true, true, true, true, true, true, false, false] rfl rfl (by kernel_rfl) (fun _ _ _ h => h) (Or.inr ⟨by rfl, rfl⟩) ?_ ?_
          rotate_left
          · simp only [Act.put, List.setIfInBounds_toArray, List.set_cons_zero, List.set_cons_succ, i64_w, i32_w]
            rfl
          refine pure_ (i := 22) (N := (some 37)) (v := undef) (a' := ?_) #[true, true, true, true, true, true, true, true, true, true, true, true, true, true, true, true, true, true, true, true, true, true, true, false] rfl rfl (by kernel_rfl) (fun _ _ _ h => h) (Or.inr ⟨by rfl, rfl⟩) ?_ ?_
          rotate_left
          · simp only [Act.put, List.setIfInBounds_toArray, List.set_cons_zero, List.set_cons_succ, i64_w, i32_w]
            rfl
          refine pure_ (i := 23) (N := (some 38)) (v := ?_) (a' := ?_) #[true, true, true, true, true, true, true, true, true, true, true, true, true, true, true, true, true, true, true, true, true, true, true, true] rfl rfl (by kernel_rfl) (fun _ _ _ h => h) (Or.inl ⟨by rfl, ?_⟩) ?_ ?_
          rotate_left
          · intro w'
            go_simp
            with_reducible rfl
          rotate_left
          · simp only [Act.put, List.setIfInBounds_toArray, List.set_cons_zero, List.set_cons_succ, i64_w, i32_w]
            rfl
          refine done_ (by kernel_rfl) ?_
          go_wp2_with fail
          go_ret
          exact ⟨by rw [HV.out]; rfl, below_step HB.out hHeld⟩
        | true =>
          have HF := Lib.hid (rformed_b hf)
          have HFF := Lib.hid hf
          clear hf
          by_cases hk0 : k = 0
          · have hz : decide (0 < k) = false := decide_eq_false (by omega)
            have HLL := Lib.hid (show lastLe (l0.take k) o = true from by rw [← HO.out, lastLe_at hlt]; exact decide_eq_true (fun h => by omega))
            clear hk0
            go_wp2_with fail
            refine start_ (n := 24) (S := fun W => Below wr.heap.size wr W) (ds := []) #[false, false, false, false, false, false, false, false, false, false, false, false, false, false, false, false, false, false, false, false, false, false, false, false] (by kernel_rfl) rfl rfl (below_drew1 (Below.refl _ _)) (fun hHeld => ?_)
            refine pure_ (i := 0) (N := (some 15)) (v := ?_) (a' := ?_) #[true, false, false, false, false, false, false, false, false, false, false, false, false, false, false, false, false, false, false, false, false, false, false, false] rfl rfl (by kernel_rfl) (fun _ _ _ h => h) (Or.inl ⟨by rfl, ?_⟩) ?_ ?_
            rotate_left
            · intro w'
              go_simp
              with_reducible rfl
            rotate_left
            · simp only [Act.put, List.setIfInBounds_toArray, List.set_cons_zero, List.set_cons_succ, i64_w, i32_w]
              rfl
            refine pure_ (i := 1) (N := (some 16)) (v := ?_) (a' := ?_) #[true, true, false, false, false, false, false, false, false, false, false, false, false, false, false, false, false, false, false, false, false, false, false, false] rfl rfl (by kernel_rfl) (fun _ _ _ h => h) (Or.inl ⟨by rfl, ?_⟩) ?_ ?_
            rotate_left
            · intro w'
              go_simp
              with_reducible rfl
            rotate_left
            · simp only [Act.put, List.setIfInBounds_toArray, List.set_cons_zero, List.set_cons_succ, i64_w, i32_w]
              rfl
            refine pure_ (i := 2) (N := (some 17)) (v := ?_) (a' := ?_) #[true, true, true, false, false, false, false, false, false, false, false, false, false, false, false, false, false, false, false, false, false, false, false, false] rfl rfl (by kernel_rfl) (fun _ _ _ h => h) (Or.inl ⟨by rfl, ?_⟩) ?_ ?_
            rotate_left
            · intro w'
              go_simp
              with_reducible rfl
            rotate_left
            · simp only [Act.put, List.setIfInBounds_toArray, List.set_cons_zero, List.set_cons_succ, i64_w, i32_w]
              rfl
            refine take_ (i := 3) (N := (some 18)) (v := ?_) (a' := ?_) #[true, true, true, true, false, false, false, false, false, false, false, false, false, false, false, false, false, false, false, false, false, false, false, false] rfl rfl (by kernel_rfl) (fun _ _ _ h => h) (Or.inl ⟨by rfl, ?_⟩) hHeld ?_ ?_
            rotate_left
            · rintro w' sb
              have c0 := pw_cell_below sb a0
              have c1 := pw_cell_below sb a1
              have c2 := pw_cell_below sb a2
              have c3 := pw_cell_below sb a3
              have c4 := pw_cell_below sb a4
              have c5 := pw_cell_below sb a5
              have c6 := pw_cell_below sb a6
              have c7 := pw_cell_below sb a7
              clear sb
              go_simp
              with_reducible rfl
            rotate_left
            · simp only [Act.put, List.setIfInBounds_toArray, List.set_cons_zero, List.set_cons_succ, i64_w, i32_w]
              rfl
            refine one_ (i := 4) (N := (some 19)) #[true, true, true, true, true, false, false, false, false, false, false, false, false, false, false, false, false, false, false, false, false, false, false, false] rfl rfl (by kernel_rfl) (by decide) (fun K hK => ?_)
            refine goes_ Try.func24 (by kernel_rfl) rfl #[odV o] (by rfl) rfl rfl (by (try simp only [List.map_toArray, List.map_cons, List.map_nil]); first | done | rfl) ?_
            with_reducible refine (HF.out _).mono ?_
            rintro e w' ⟨rfl, hb⟩
            refine ⟨_, rfl, ?_⟩
            refine hK.out _ _ (below_step hHeld hb) (fun hHeld => ?_)
            clear hK K
            clear hb
            refine norm_ (a' := ?_) ?_ ?_
            rotate_left
            · show Act.put _ (some 19) _ = _
              simp only [Act.put, List.setIfInBounds_toArray, List.set_cons_zero, List.set_cons_succ, i64_w, i32_w]
              rfl
            refine pure_ (i := 5) (N := (some 20)) (v := ?_) (a' := ?_) #[true, true, true, true, true, true, false, false, false, false, false, false, false, false, false, false, false, false, false, false, false, false, false, false] rfl rfl (by kernel_rfl) (fun _ _ _ h => h) (Or.inl ⟨by rfl, ?_⟩) ?_ ?_
            rotate_left
            · intro w'
              go_simp
              with_reducible rfl
            rotate_left
            · simp only [Act.put, List.setIfInBounds_toArray, List.set_cons_zero, List.set_cons_succ, i64_w, i32_w]
              rfl
            refine pure_ (i := 6) (N := (some 21)) (v := ?_) (a' := ?_) #[true, true, true, true, true, true, true, false, false, false, false, false, false, false, false, false, false, false, false, false, false, false, false, false] rfl rfl (by kernel_rfl) (fun _ _ _ h => h) (Or.inl ⟨by rfl, ?_⟩) ?_ ?_
            rotate_left
            · intro w'
              go_simp
              with_reducible rfl
            rotate_left
            · simp only [Act.put, List.setIfInBounds_toArray, List.set_cons_zero, List.set_cons_succ, i64_w, i32_w]
              rfl
            refine pure_ (i := 7) (N := (some 22)) (v := ?_) (a' := ?_) #[true, true, true, true, true, true, true, true, false, false, false, false, false, false, false, false, false, false, false, false, false, false, false, false] rfl rfl (by kernel_rfl) (fun _ _ _ h => h) (Or.inl ⟨by rfl, ?_⟩) ?_ ?_
            rotate_left
            · intro w'
              go_simp
              with_reducible rfl
            rotate_left
            · simp only [Act.put, List.setIfInBounds_toArray, List.set_cons_zero, List.set_cons_succ, i64_w, i32_w]
              rfl
            refine pure_ (i := 8) (N := (some 23)) (v := ?_) (a' := ?_) #[true, true, true, true, true, true, true, true, true, false, false, false, false, false, false, false, false, false, false, false, false, false, false, false] rfl rfl (by kernel_rfl) (fun _ _ _ h => h) (Or.inl ⟨by rfl, ?_⟩) ?_ ?_
            rotate_left
            · intro w'
              go_simp
              with_reducible rfl
            rotate_left
            · simp only [Act.put, List.setIfInBounds_toArray, List.set_cons_zero, List.set_cons_succ, i64_w, i32_w]
              rfl
            refine pure_ (i := 9) (N := (some 24)) (v := ?_) (a' := ?_) #[true, true, true, true, true, true, true, true, true, true, false, false, false, false, false, false, false, false, false, false, false, false, false, false] rfl rfl (by kernel_rfl) (fun _ _ _ h => h) (Or.inl ⟨by rfl, ?_⟩) ?_ ?_
            rotate_left
            · intro w'
              go_simp
              with_reducible rfl
            rotate_left
            · simp only [Act.put, List.setIfInBounds_toArray, List.set_cons_zero, List.set_cons_succ, i64_w, i32_w]
              rfl
            refine pure_ (i := 10) (N := (some 25)) (v := undef) (a' := ?_) #[true, true, true, true, true, true, true, true, true, true, true, false, false, false, false, false, false, false, false, false, false, false, false, false] rfl rfl (by kernel_rfl) (fun _ _ _ h => h) (Or.inr ⟨by rfl, rfl⟩) ?_ ?_
            rotate_left
            · simp only [Act.put, List.setIfInBounds_toArray, List.set_cons_zero, List.set_cons_succ, i64_w, i32_w]
              rfl
            refine pure_ (i := 11) (N := (some 26)) (v := undef) (a' := ?_) #[true, true, true, true, true, true, true, true, true, true, true, true, false, false, false, false, false, false, false, false, false, false, false, false] rfl rfl (by kernel_rfl) (fun _ _ _ h => h) (Or.inr ⟨by rfl, rfl⟩) ?_ ?_
            rotate_left
            · simp only [Act.put, List.setIfInBounds_toArray, List.set_cons_zero, List.set_cons_succ, i64_w, i32_w]
              rfl
            refine pure_ (i := 12) (N := (some 27)) (v := undef) (a' := ?_) #[true, true, true, true, true, true, true, true, true, true, true, true, true, false, false, false, false, false, false, false, false, false, false, false] rfl rfl (by kernel_rfl) (fun _ _ _ h => h) (Or.inr ⟨by rfl, rfl⟩) ?_ ?_
            rotate_left
            · simp only [Act.put, List.setIfInBounds_toArray, List.set_cons_zero, List.set_cons_succ, i64_w, i32_w]
              rfl
            refine pure_ (i := 13) (N := (some 28)) (v := undef) (a' := ?_) #[true, true, true, true, true, true, true, true, true, true, true, true, true, true, false, false, false, false, false, false, false, false, false, false] rfl rfl (by kernel_rfl) (fun _ _ _ h => h) (Or.inr ⟨by rfl, rfl⟩) ?_ ?_
            rotate_left
            · simp only [Act.put, List.setIfInBounds_toArray, List.set_cons_zero, List.set_cons_succ, i64_w, i32_w]
              rfl
            refine pure_ (i := 14) (N := (some 29)) (v := undef) (a' := ?_) #[true, true, true, true, true, true, true, true, true, true, true, true, true, true, true, false, false, false, false, false, false, false, false, false] rfl rfl (by kernel_rfl) (fun _ _ _ h => h) (Or.inr ⟨by rfl, rfl⟩) ?_ ?_
            rotate_left
            · simp only [Act.put, List.setIfInBounds_toArray, List.set_cons_zero, List.set_cons_succ, i64_w, i32_w]
              rfl
            refine pure_ (i := 15) (N := (some 30)) (v := undef) (a' := ?_) #[true, true, true, true, true, true, true, true, true, true, true, true, true, true, true, true, false, false, false, false, false, false, false, false] rfl rfl (by kernel_rfl) (fun _ _ _ h => h) (Or.inr ⟨by rfl, rfl⟩) ?_ ?_
            rotate_left
            · simp only [Act.put, List.setIfInBounds_toArray, List.set_cons_zero, List.set_cons_succ, i64_w, i32_w]
              rfl
            refine pure_ (i := 16) (N := (some 31)) (v := undef) (a' := ?_) #[true, true, true, true, true, true, true, true, true, true, true, true, true, true, true, true, true, false, false, false, false, false, false, false] rfl rfl (by kernel_rfl) (fun _ _ _ h => h) (Or.inr ⟨by rfl, rfl⟩) ?_ ?_
            rotate_left
            · simp only [Act.put, List.setIfInBounds_toArray, List.set_cons_zero, List.set_cons_succ, i64_w, i32_w]
              rfl
            refine pure_ (i := 17) (N := (some 32)) (v := undef) (a' := ?_) #[true, true, true, true, true, true, true, true, true, true, true, true, true, true, true, true, true, true, false, false, false, false, false, false] rfl rfl (by kernel_rfl) (fun _ _ _ h => h) (Or.inr ⟨by rfl, rfl⟩) ?_ ?_
            rotate_left
            · simp only [Act.put, List.setIfInBounds_toArray, List.set_cons_zero, List.set_cons_succ, i64_w, i32_w]
              rfl
            refine pure_ (i := 18) (N := (some 33)) (v := undef) (a' := ?_) #[true, true, true, true, true, true, true, true, true, true, true, true, true, true, true, true, true, true, true, false, false, false, false, false] rfl rfl (by kernel_rfl) (fun _ _ _ h => h) (Or.inr ⟨by rfl, rfl⟩) ?_ ?_
            rotate_left
            · simp only [Act.put, List.setIfInBounds_toArray, List.set_cons_zero, List.set_cons_succ, i64_w, i32_w]
              rfl
            refine pure_ (i := 19) (N := (some 34)) (v := undef) (a' := ?_) #[true, true, true, true, true, true, true, true, true, true, true, true, true, true, true, true, true, true, true, true, false, false, false, false] rfl rfl (by kernel_rfl) (fun _ _ _ h => h) (Or.inr ⟨by rfl, rfl⟩) ?_ ?_
            rotate_left
            · simp only [Act.put, List.setIfInBounds_toArray, List.set_cons_zero, List.set_cons_succ, i64_w, i32_w]
              rfl
            refine pure_ (i := 20) (N := (some 35)) (v := undef) (a' := ?_) #[true, true, true, true, true, true, true, true, true, true, true, true, true, true, true, true, true, true, true, true, true, false, false, false] rfl rfl (by kernel_rfl) (fun _ _ _ h => h) (Or.inr ⟨by rfl, rfl⟩) ?_ ?_
            rotate_left
            · simp only [Act.put, List.setIfInBounds_toArray, List.set_cons_zero, List.set_cons_succ, i64_w, i32_w]
              rfl
            refine pure_ (i := 21) (N := (some 36)) (v := undef) (a' := ?_) #[true, true, true, true, true, true, true, true, true, true, true, true, true, true, true, true, true, true, true, true, true, true, false, false] rfl rfl (by kernel_rfl) (fun _ _ _ h => h) (Or.inr ⟨by rfl, rfl⟩) ?_ ?_
            rotate_left
            · simp only [Act.put, List.setIfInBounds_toArray, List.set_cons_zero, List.set_cons_succ, i64_w, i32_w]
              rfl
            refine pure_ (i := 22) (N := (some 37)) (v := ?_) (a' := ?_) #[true, true, true, true, true, true, true, true, true, true, true, true, true, true, true, true, true, true, true, true, true, true, true, false] rfl rfl (by kernel_rfl) (fun _ _ _ h => h) (Or.inl ⟨by rfl, ?_⟩) ?_ ?_
            rotate_left
            · intro w'
              go_simp
              with_reducible rfl
            rotate_left
            · simp only [Act.put, List.setIfInBounds_toArray, List.set_cons_zero, List.set_cons_succ, i64_w, i32_w]
              rfl
            refine pure_ (i := 23) (N := (some 38)) (v := ?_) (a' := ?_) #[true, true, true, true, true, true, true, true, true, true, true, true, true, true, true, true, true, true, true, true, true, true, true, true] rfl rfl (by kernel_rfl) (fun _ _ _ h => h) (Or.inl ⟨by rfl, ?_⟩) ?_ ?_
            rotate_left
            · intro w'
              go_simp
              with_reducible rfl
            rotate_left
            · simp only [Act.put, List.setIfInBounds_toArray, List.set_cons_zero, List.set_cons_succ, i64_w, i32_w]
              rfl
            refine done_ (by kernel_rfl) ?_
            go_wp2_with fail
            have HW := Lib.hid (below_step HB.out hHeld)
            have HOW := Lib.hid (And.intro (pw_cell_below hHeld a0) (And.intro (pw_cell_below hHeld a1) (pw_cell_below hHeld a2)))
            obtain ⟨wo, hwo⟩ : ∃ wo : World, wo = w' := ⟨_, rfl⟩
            subst hwo
            clear hHeld a0 a1 a2 a3 a4 a5 a6 a7
            go_loopw [4, 5] (fun f j wr2 => ∃ jn : Nat, jn ≤ k ∧ f = .bool (newIn (l0.take jn) o) ∧ j = .int .i64 jn ∧ RIn l0 wo o jn wr2) (fun _ j _ => k - (intOf j).toNat)
            case atStart => exact ⟨0, Nat.zero_le _, rfl, rfl, by simp, Below.refl _ _⟩
            case round =>
              obtain ⟨jn, hjn, rfl, rfl, hR⟩ := hrel
              have HR := Lib.hid hR
              clear hR
              have hb : ∃ b, newIn (l0.take jn) o = b := ⟨_, rfl⟩
              obtain ⟨b, hb⟩ := hb
              by_cases hjk : jn < k
              · have hjl : jn < l0.length := by omega
                obtain ⟨adx, eadx, x0, x1, x2, x3, x4, x5, x6, x7⟩ := od_cells (Kd.C_below HC.out (Below.trans HW.out (HR.out.2.mono HW.out.size))) hjl
                cases eadx
                have a0 := pw_cell_below HR.out.2 HOW.out.1
                have a1 := pw_cell_below HR.out.2 HOW.out.2.1
                have a2 := pw_cell_below HR.out.2 HOW.out.2.2
                have HT := Lib.hid (take_odAt hjl)
                generalize hx : odAt l0 jn = x at *
                have HX := Lib.hid hx
                have HBN := Lib.hid hb
                rw [hb]
                clear hx hb x3 x4 x5 x6 x7
                cases b with
                | true =>
                  by_cases he : x.f0 = o.f0
                  · rw [he] at x0
                    have HE := Lib.hid he
                    clear he
                    by_cases he1 : x.f1 = o.f1
                    · rw [he1] at x1
                      have HE1 := Lib.hid he1
                      clear he1
                      by_cases he2 : x.f2 = o.f2
                      · rw [he2] at x2
                        have HE2 := Lib.hid he2
                        clear he2
                        go_wp2_with fail
                        go_quiet (fail)
                        go_wp2_with fail
                        go_quiet (fail)
                        go_wp2_with fail
                        go_roundw
                        case rel =>
                          refine ⟨jn + 1, by omega, ?_, by go_num, ?_, (by repeat (first | exact HR.out.2 | apply pw_below_drewN))⟩
                          · rw [HT.out, newIn_snoc, HBN.out, HE.out]
                            simp
                          · rw [HT.out]
                            intro y hy hyo
                            rcases List.mem_append.1 hy with hy | hy
                            · exact HR.out.1 y hy hyo
                            · rw [List.mem_singleton.1 hy]
                              exact ⟨HE1.out, HE2.out⟩
                        case measure => simp [intOf]; omega
                      · have ne : ¬ x.f2.toList = o.f2.toList := fun h => he2 (str_eq.1 h)
                        have ne' : (x.f2.toList == o.f2.toList) = false := beq_eq_false_iff_ne.2 ne
                        have HV := Lib.hid (valid_stop hlt (by rw [HO.out]; exact okNext_diff (x := x) (by rw [← List.take_append_drop (jn + 1) (l0.take k), List.take_take, Nat.min_eq_left (by omega), HT.out]; simp) HE.out (fun h => he2 h.2)))
                        clear he2
                        go_wp2_with fail
                        go_quiet (fail)
                        go_wp2_with fail
                        go_ret
                        exact ⟨by rw [HV.out]; rfl, pw_below_drewN (Below.trans HW.out (HR.out.2.mono HW.out.size)) _⟩
                    · have ne : ¬ x.f1.toList = o.f1.toList := fun h => he1 (str_eq.1 h)
                      have ne' : (x.f1.toList == o.f1.toList) = false := beq_eq_false_iff_ne.2 ne
                      have HV := Lib.hid (valid_stop hlt (by rw [HO.out]; exact okNext_diff (x := x) (by rw [← List.take_append_drop (jn + 1) (l0.take k), List.take_take, Nat.min_eq_left (by omega), HT.out]; simp) HE.out (fun h => he1 h.1)))
                      clear he1
                      go_wp2_with fail
                      go_quiet (fail)
                      go_wp2_with fail
                      go_ret
                      exact ⟨by rw [HV.out]; rfl, pw_below_drewN (Below.trans HW.out (HR.out.2.mono HW.out.size)) _⟩
                  · have ne : (x.f0 == o.f0) = false := beq_eq_false_iff_ne.2 he
                    have ne' : decide (x.f0 = o.f0) = false := decide_eq_false he
                    have HE := Lib.hid he
                    clear he
                    go_wp2_with fail
                    go_quiet (fail)
                    go_wp2_with fail
                    go_quiet (fail)
                    go_wp2_with fail
                    go_roundw
                    case rel =>
                      refine ⟨jn + 1, by omega, ?_, by go_num, ?_, (by repeat (first | exact HR.out.2 | apply pw_below_drewN))⟩
                      · rw [HT.out, newIn_snoc, HBN.out]
                        simp [HE.out]
                      · rw [HT.out]
                        intro y hy hyo
                        rcases List.mem_append.1 hy with hy | hy
                        · exact HR.out.1 y hy hyo
                        · rw [List.mem_singleton.1 hy] at hyo
                          exact absurd hyo HE.out
                    case measure => simp [intOf]; omega
                | false =>
                  by_cases he : x.f0 = o.f0
                  · rw [he] at x0
                    have HE := Lib.hid he
                    clear he
                    by_cases he1 : x.f1 = o.f1
                    · rw [he1] at x1
                      have HE1 := Lib.hid he1
                      clear he1
                      by_cases he2 : x.f2 = o.f2
                      · rw [he2] at x2
                        have HE2 := Lib.hid he2
                        clear he2
                        go_wp2_with fail
                        go_quiet (fail)
                        go_wp2_with fail
                        go_quiet (fail)
                        go_wp2_with fail
                        go_roundw
                        case rel =>
                          refine ⟨jn + 1, by omega, ?_, by go_num, ?_, (by repeat (first | exact HR.out.2 | apply pw_below_drewN))⟩
                          · rw [HT.out, newIn_snoc, HBN.out, HE.out]
                            simp
                          · rw [HT.out]
                            intro y hy hyo
                            rcases List.mem_append.1 hy with hy | hy
                            · exact HR.out.1 y hy hyo
                            · rw [List.mem_singleton.1 hy]
                              exact ⟨HE1.out, HE2.out⟩
                        case measure => simp [intOf]; omega
                      · have ne : ¬ x.f2.toList = o.f2.toList := fun h => he2 (str_eq.1 h)
                        have ne' : (x.f2.toList == o.f2.toList) = false := beq_eq_false_iff_ne.2 ne
                        have HV := Lib.hid (valid_stop hlt (by rw [HO.out]; exact okNext_diff (x := x) (by rw [← List.take_append_drop (jn + 1) (l0.take k), List.take_take, Nat.min_eq_left (by omega), HT.out]; simp) HE.out (fun h => he2 h.2)))
                        clear he2
                        go_wp2_with fail
                        go_quiet (fail)
                        go_wp2_with fail
                        go_ret
                        exact ⟨by rw [HV.out]; rfl, pw_below_drewN (Below.trans HW.out (HR.out.2.mono HW.out.size)) _⟩
                    · have ne : ¬ x.f1.toList = o.f1.toList := fun h => he1 (str_eq.1 h)
                      have ne' : (x.f1.toList == o.f1.toList) = false := beq_eq_false_iff_ne.2 ne
                      have HV := Lib.hid (valid_stop hlt (by rw [HO.out]; exact okNext_diff (x := x) (by rw [← List.take_append_drop (jn + 1) (l0.take k), List.take_take, Nat.min_eq_left (by omega), HT.out]; simp) HE.out (fun h => he1 h.1)))
                      clear he1
                      go_wp2_with fail
                      go_quiet (fail)
                      go_wp2_with fail
                      go_ret
                      exact ⟨by rw [HV.out]; rfl, pw_below_drewN (Below.trans HW.out (HR.out.2.mono HW.out.size)) _⟩
                  · have ne : (x.f0 == o.f0) = false := beq_eq_false_iff_ne.2 he
                    have ne' : decide (x.f0 = o.f0) = false := decide_eq_false he
                    have HE := Lib.hid he
                    clear he
                    go_wp2_with fail
                    go_quiet (fail)
                    go_wp2_with fail
                    go_quiet (fail)
                    go_wp2_with fail
                    go_roundw
                    case rel =>
                      refine ⟨jn + 1, by omega, ?_, by go_num, ?_, (by repeat (first | exact HR.out.2 | apply pw_below_drewN))⟩
                      · rw [HT.out, newIn_snoc, HBN.out]
                        simp [HE.out]
                      · rw [HT.out]
                        intro y hy hyo
                        rcases List.mem_append.1 hy with hy | hy
                        · exact HR.out.1 y hy hyo
                        · rw [List.mem_singleton.1 hy] at hyo
                          exact absurd hyo HE.out
                    case measure => simp [intOf]; omega
              · obtain rfl : jn = k := by omega
                clear hjk
                have HBN := Lib.hid hb
                rw [hb]
                clear hb
                have a1 := pw_cell_below HR.out.2 HOW.out.2.1
                cases b with
                | true =>
                  have okn := Lib.hid (okNext_new HFF.out HLL.out (newIn_iff.1 HBN.out))
                  have HCR := Lib.hid (Kd.C_below HC.out (Below.trans HW.out (HR.out.2.mono HW.out.size)))
                  have hnt := nums_take hlt o.f1
                  rw [HO.out, HBN.out, if_pos ⟨rfl, rfl⟩] at hnt
                  have hle : nums o.f1 [] (l0.take jn) ≤ 400 := Nat.le_trans (nums_le _ _ _) (by rw [List.length_take]; omega)
                  generalize hN : nums o.f1 [] (l0.take jn) = nn at *
                  generalize hM : nums o.f1 [] (l0.take (jn + 1)) = mm at *
                  have HN := Lib.hid hN
                  have HM := Lib.hid hM
                  have HNM := Lib.hid hnt
                  clear hN hM hnt
                  have z1 : (0 : Int) ≤ (jn : Int) + 1 := by omega
                  have z2 : (jn : Int) + 1 ≤ (c0 : Int) := by have := HL.out; omega
                  have z3 : ((jn : Int) + 1).toNat = jn + 1 := by omega
                  have z4 : IntKind.i64.wrap ((jn : Int) + 1) = (jn : Int) + 1 := IntWalk.i64_in _ (by omega)
                  by_cases h16 : mm ≤ 16
                  · have z5 : ¬ (16 : Int) < (mm : Int) := by omega
                    go_wp2_with fail
                    refine start_ (n := 14) (S := fun W => Below wr.heap.size wr W) (ds := []) #[false, false, false, false, false, false, false, false, false, false, false, false, false, false] (by kernel_rfl) rfl rfl (below_drew1 (Below.refl _ _)) (fun hHeld => ?_)
                    refine pure_ (i := 0) (N := (some 95)) (v := ?_) (a' := ?_) #[true, false, false, false, false, false, false, false, false, false, false, false, false, false] rfl rfl (by kernel_rfl) (fun _ _ _ h => h) (Or.inl ⟨by rfl, ?_⟩) ?_ ?_
                    rotate_left
                    · intro w'
                      go_simp
                      with_reducible rfl
                    rotate_left
                    · simp only [Act.put, List.setIfInBounds_toArray, List.set_cons_zero, List.set_cons_succ, i64_w, i32_w]
                      rfl
                    refine pure_ (i := 1) (N := (some 96)) (v := ?_) (a' := ?_) #[true, true, false, false, false, false, false, false, false, false, false, false, false, false] rfl rfl (by kernel_rfl) (fun _ _ _ h => h) (Or.inl ⟨by rfl, ?_⟩) ?_ ?_
                    rotate_left
                    · intro w'
                      go_simp
                      with_reducible rfl
                    rotate_left
                    · simp only [Act.put, List.setIfInBounds_toArray, List.set_cons_zero, List.set_cons_succ, i64_w, i32_w]
                      rfl
                    refine pure_ (i := 2) (N := (some 97)) (v := ?_) (a' := ?_) #[true, true, true, false, false, false, false, false, false, false, false, false, false, false] rfl rfl (by kernel_rfl) (fun _ _ _ h => h) (Or.inl ⟨by rfl, ?_⟩) ?_ ?_
                    rotate_left
                    · intro w'
                      go_simp
                      with_reducible rfl
                    rotate_left
                    · simp only [Act.put, List.setIfInBounds_toArray, List.set_cons_zero, List.set_cons_succ, i64_w, i32_w]
                      rfl
                    refine pure_ (i := 3) (N := (some 98)) (v := ?_) (a' := ?_) #[true, true, true, true, false, false, false, false, false, false, false, false, false, false] rfl rfl (by kernel_rfl) (fun _ _ _ h => h) (Or.inl ⟨by rfl, ?_⟩) ?_ ?_
                    rotate_left
                    · intro w'
                      go_simp
                      with_reducible rfl
                    rotate_left
                    · simp only [Act.put, List.setIfInBounds_toArray, List.set_cons_zero, List.set_cons_succ, i64_w, i32_w]
                      rfl
                    refine pure_ (i := 4) (N := (some 99)) (v := ?_) (a' := ?_) #[true, true, true, true, true, false, false, false, false, false, false, false, false, false] rfl rfl (by kernel_rfl) (fun _ _ _ h => h) (Or.inl ⟨by rfl, ?_⟩) ?_ ?_
                    rotate_left
                    · intro w'
                      go_simp
                      with_reducible rfl
                    rotate_left
                    · simp only [Act.put, List.setIfInBounds_toArray, List.set_cons_zero, List.set_cons_succ, i64_w, i32_w]
                      rfl
                    refine pure_ (i := 5) (N := (some 100)) (v := ?_) (a' := ?_) #[true, true, true, true, true, true, false, false, false, false, false, false, false, false] rfl rfl (by kernel_rfl) (fun _ _ _ h => h) (Or.inl ⟨by rfl, ?_⟩) ?_ ?_
                    rotate_left
                    · intro w'
                      go_simp
                      with_reducible rfl
                    rotate_left
                    · simp only [Act.put, List.setIfInBounds_toArray, List.set_cons_zero, List.set_cons_succ, i64_w, i32_w]
                      rfl
                    refine pure_ (i := 6) (N := (some 101)) (v := ?_) (a' := ?_) #[true, true, true, true, true, true, true, false, false, false, false, false, false, false] rfl rfl (by kernel_rfl) (fun _ _ _ h => h) (Or.inl ⟨by rfl, ?_⟩) ?_ ?_
                    rotate_left
                    · intro w'
                      go_simp
                      with_reducible rfl
                    rotate_left
                    · simp only [Act.put, List.setIfInBounds_toArray, List.set_cons_zero, List.set_cons_succ, i64_w, i32_w]
                      rfl
                    refine pure_ (i := 7) (N := (some 102)) (v := ?_) (a' := ?_) #[true, true, true, true, true, true, true, true, false, false, false, false, false, false] rfl rfl (by kernel_rfl) (fun _ _ _ h => h) (Or.inl ⟨by rfl, ?_⟩) ?_ ?_
                    rotate_left
                    · intro w'
                      go_simp
                      with_reducible rfl
                    rotate_left
                    · simp only [Act.put, List.setIfInBounds_toArray, List.set_cons_zero, List.set_cons_succ, i64_w, i32_w]
                      rfl
                    refine pure_ (i := 8) (N := (some 103)) (v := ?_) (a' := ?_) #[true, true, true, true, true, true, true, true, true, false, false, false, false, false] rfl rfl (by kernel_rfl) (fun _ _ _ h => h) (Or.inl ⟨by rfl, ?_⟩) ?_ ?_
                    rotate_left
                    · intro w'
                      go_simp
                      with_reducible rfl
                    rotate_left
                    · simp only [Act.put, List.setIfInBounds_toArray, List.set_cons_zero, List.set_cons_succ, i64_w, i32_w]
                      rfl
                    refine pure_ (i := 9) (N := (some 104)) (v := ?_) (a' := ?_) #[true, true, true, true, true, true, true, true, true, true, false, false, false, false] rfl rfl (by kernel_rfl) (fun _ _ _ h => h) (Or.inl ⟨by rfl, ?_⟩) ?_ ?_
                    rotate_left
                    · intro w'
                      go_simp
                      with_reducible rfl
                    rotate_left
                    · simp only [Act.put, List.setIfInBounds_toArray, List.set_cons_zero, List.set_cons_succ, i64_w, i32_w]
                      rfl
                    refine take_ (i := 10) (N := (some 105)) (v := ?_) (a' := ?_) #[true, true, true, true, true, true, true, true, true, true, true, false, false, false] rfl rfl (by kernel_rfl) (fun _ _ _ h => h) (Or.inl ⟨by rfl, ?_⟩) hHeld ?_ ?_
                    rotate_left
                    · rintro w' sb
                      have c1 := pw_cell_below sb a1
                      clear sb
                      go_simp
                      with_reducible rfl
                    rotate_left
                    · simp only [Act.put, List.setIfInBounds_toArray, List.set_cons_zero, List.set_cons_succ, i64_w, i32_w]
                      rfl
                    refine one_ (i := 11) (N := (some 106)) #[true, true, true, true, true, true, true, true, true, true, true, true, false, false] rfl rfl (by kernel_rfl) (by decide) (fun K hK => ?_)
                    refine goes_ Try.func25 (by kernel_rfl) rfl #[.slice (some ad) (jn + 1) c0, .string o.f1] (by rfl) rfl rfl (by (try simp only [List.map_toArray, List.map_cons, List.map_nil]); first | done | rfl) ?_
                    with_reducible refine (numsC _ _ l0 _ (jn + 1) hlen (by omega) _ (Kd.C_below HCR.out hHeld) HL.out).mono ?_
                    rintro e w' ⟨rfl, hb⟩
                    refine ⟨_, rfl, ?_⟩
                    refine hK.out _ _ (below_step hHeld hb) (fun hHeld => ?_)
                    clear hK K
                    clear hb
                    rw [HM.out]
                    refine norm_ (a' := ?_) ?_ ?_
                    rotate_left
                    · show Act.put _ (some 106) _ = _
                      simp only [Act.put, List.setIfInBounds_toArray, List.set_cons_zero, List.set_cons_succ, i64_w, i32_w]
                      rfl
                    refine pure_ (i := 12) (N := (some 107)) (v := ?_) (a' := ?_) #[true, true, true, true, true, true, true, true, true, true, true, true, true, false] rfl rfl (by kernel_rfl) (fun _ _ _ h => h) (Or.inl ⟨by rfl, ?_⟩) ?_ ?_
                    rotate_left
                    · intro w'
                      go_simp
                      with_reducible rfl
                    rotate_left
                    · simp only [Act.put, List.setIfInBounds_toArray, List.set_cons_zero, List.set_cons_succ, i64_w, i32_w]
                      rfl
                    refine pure_ (i := 13) (N := (some 108)) (v := ?_) (a' := ?_) #[true, true, true, true, true, true, true, true, true, true, true, true, true, true] rfl rfl (by kernel_rfl) (fun _ _ _ h => h) (Or.inl ⟨by rfl, ?_⟩) ?_ ?_
                    rotate_left
                    · intro w'
                      go_simp
                      with_reducible rfl
                    rotate_left
                    · simp only [Act.put, List.setIfInBounds_toArray, List.set_cons_zero, List.set_cons_succ, i64_w, i32_w]
                      rfl
                    refine done_ (by kernel_rfl) ?_
                    go_wp2_with fail
                    go_roundw
                    case rel => exact ⟨jn + 1, by omega, by go_num, validFrom_next hlt HI.out.1 (by rw [HO.out, okn.out]; exact decide_eq_true (by have := HNM.out; omega)), Below.trans HW.out (Below.trans HR.out.2 (hHeld.mono HR.out.2.size) |>.mono HW.out.size)⟩
                    case measure => simp [intOf]; omega
                  · have z5 : (16 : Int) < (mm : Int) := by omega
                    have HV := Lib.hid (valid_stop hlt (by rw [HO.out, okn.out]; exact decide_eq_false (by have := HNM.out; omega)))
                    go_wp2_with fail
                    refine start_ (n := 14) (S := fun W => Below wr.heap.size wr W) (ds := []) #[false, false, false, false, false, false, false, false, false, false, false, false, false, false] (by kernel_rfl) rfl rfl (below_drew1 (Below.refl _ _)) (fun hHeld => ?_)
                    refine pure_ (i := 0) (N := (some 95)) (v := ?_) (a' := ?_) #[true, false, false, false, false, false, false, false, false, false, false, false, false, false] rfl rfl (by kernel_rfl) (fun _ _ _ h => h) (Or.inl ⟨by rfl, ?_⟩) ?_ ?_
                    rotate_left
                    · intro w'
                      go_simp
                      with_reducible rfl
                    rotate_left
                    · simp only [Act.put, List.setIfInBounds_toArray, List.set_cons_zero, List.set_cons_succ, i64_w, i32_w]
                      rfl
                    refine pure_ (i := 1) (N := (some 96)) (v := ?_) (a' := ?_) #[true, true, false, false, false, false, false, false, false, false, false, false, false, false] rfl rfl (by kernel_rfl) (fun _ _ _ h => h) (Or.inl ⟨by rfl, ?_⟩) ?_ ?_
                    rotate_left
                    · intro w'
                      go_simp
                      with_reducible rfl
                    rotate_left
                    · simp only [Act.put, List.setIfInBounds_toArray, List.set_cons_zero, List.set_cons_succ, i64_w, i32_w]
                      rfl
                    refine pure_ (i := 2) (N := (some 97)) (v := ?_) (a' := ?_) #[true, true, true, false, false, false, false, false, false, false, false, false, false, false] rfl rfl (by kernel_rfl) (fun _ _ _ h => h) (Or.inl ⟨by rfl, ?_⟩) ?_ ?_
                    rotate_left
                    · intro w'
                      go_simp
                      with_reducible rfl
                    rotate_left
                    · simp only [Act.put, List.setIfInBounds_toArray, List.set_cons_zero, List.set_cons_succ, i64_w, i32_w]
                      rfl
                    refine pure_ (i := 3) (N := (some 98)) (v := ?_) (a' := ?_) #[true, true, true, true, false, false, false, false, false, false, false, false, false, false] rfl rfl (by kernel_rfl) (fun _ _ _ h => h) (Or.inl ⟨by rfl, ?_⟩) ?_ ?_
                    rotate_left
                    · intro w'
                      go_simp
                      with_reducible rfl
                    rotate_left
                    · simp only [Act.put, List.setIfInBounds_toArray, List.set_cons_zero, List.set_cons_succ, i64_w, i32_w]
                      rfl
                    refine pure_ (i := 4) (N := (some 99)) (v := ?_) (a' := ?_) #[true, true, true, true, true, false, false, false, false, false, false, false, false, false] rfl rfl (by kernel_rfl) (fun _ _ _ h => h) (Or.inl ⟨by rfl, ?_⟩) ?_ ?_
                    rotate_left
                    · intro w'
                      go_simp
                      with_reducible rfl
                    rotate_left
                    · simp only [Act.put, List.setIfInBounds_toArray, List.set_cons_zero, List.set_cons_succ, i64_w, i32_w]
                      rfl
                    refine pure_ (i := 5) (N := (some 100)) (v := ?_) (a' := ?_) #[true, true, true, true, true, true, false, false, false, false, false, false, false, false] rfl rfl (by kernel_rfl) (fun _ _ _ h => h) (Or.inl ⟨by rfl, ?_⟩) ?_ ?_
                    rotate_left
                    · intro w'
                      go_simp
                      with_reducible rfl
                    rotate_left
                    · simp only [Act.put, List.setIfInBounds_toArray, List.set_cons_zero, List.set_cons_succ, i64_w, i32_w]
                      rfl
                    refine pure_ (i := 6) (N := (some 101)) (v := ?_) (a' := ?_) #[true, true, true, true, true, true, true, false, false, false, false, false, false, false] rfl rfl (by kernel_rfl) (fun _ _ _ h => h) (Or.inl ⟨by rfl, ?_⟩) ?_ ?_
                    rotate_left
                    · intro w'
                      go_simp
                      with_reducible rfl
                    rotate_left
                    · simp only [Act.put, List.setIfInBounds_toArray, List.set_cons_zero, List.set_cons_succ, i64_w, i32_w]
                      rfl
                    refine pure_ (i := 7) (N := (some 102)) (v := ?_) (a' := ?_) #[true, true, true, true, true, true, true, true, false, false, false, false, false, false] rfl rfl (by kernel_rfl) (fun _ _ _ h => h) (Or.inl ⟨by rfl, ?_⟩) ?_ ?_
                    rotate_left
                    · intro w'
                      go_simp
                      with_reducible rfl
                    rotate_left
                    · simp only [Act.put, List.setIfInBounds_toArray, List.set_cons_zero, List.set_cons_succ, i64_w, i32_w]
                      rfl
                    refine pure_ (i := 8) (N := (some 103)) (v := ?_) (a' := ?_) #[true, true, true, true, true, true, true, true, true, false, false, false, false, false] rfl rfl (by kernel_rfl) (fun _ _ _ h => h) (Or.inl ⟨by rfl, ?_⟩) ?_ ?_
                    rotate_left
                    · intro w'
                      go_simp
                      with_reducible rfl
                    rotate_left
                    · simp only [Act.put, List.setIfInBounds_toArray, List.set_cons_zero, List.set_cons_succ, i64_w, i32_w]
                      rfl
                    refine pure_ (i := 9) (N := (some 104)) (v := ?_) (a' := ?_) #[true, true, true, true, true, true, true, true, true, true, false, false, false, false] rfl rfl (by kernel_rfl) (fun _ _ _ h => h) (Or.inl ⟨by rfl, ?_⟩) ?_ ?_
                    rotate_left
                    · intro w'
                      go_simp
                      with_reducible rfl
                    rotate_left
                    · simp only [Act.put, List.setIfInBounds_toArray, List.set_cons_zero, List.set_cons_succ, i64_w, i32_w]
                      rfl
                    refine take_ (i := 10) (N := (some 105)) (v := ?_) (a' := ?_) #[true, true, true, true, true, true, true, true, true, true, true, false, false, false] rfl rfl (by kernel_rfl) (fun _ _ _ h => h) (Or.inl ⟨by rfl, ?_⟩) hHeld ?_ ?_
                    rotate_left
                    · rintro w' sb
                      have c1 := pw_cell_below sb a1
                      clear sb
                      go_simp
                      with_reducible rfl
                    rotate_left
                    · simp only [Act.put, List.setIfInBounds_toArray, List.set_cons_zero, List.set_cons_succ, i64_w, i32_w]
                      rfl
                    refine one_ (i := 11) (N := (some 106)) #[true, true, true, true, true, true, true, true, true, true, true, true, false, false] rfl rfl (by kernel_rfl) (by decide) (fun K hK => ?_)
                    refine goes_ Try.func25 (by kernel_rfl) rfl #[.slice (some ad) (jn + 1) c0, .string o.f1] (by rfl) rfl rfl (by (try simp only [List.map_toArray, List.map_cons, List.map_nil]); first | done | rfl) ?_
                    with_reducible refine (numsC _ _ l0 _ (jn + 1) hlen (by omega) _ (Kd.C_below HCR.out hHeld) HL.out).mono ?_
                    rintro e w' ⟨rfl, hb⟩
                    refine ⟨_, rfl, ?_⟩
                    refine hK.out _ _ (below_step hHeld hb) (fun hHeld => ?_)
                    clear hK K
                    clear hb
                    rw [HM.out]
                    refine norm_ (a' := ?_) ?_ ?_
                    rotate_left
                    · show Act.put _ (some 106) _ = _
                      simp only [Act.put, List.setIfInBounds_toArray, List.set_cons_zero, List.set_cons_succ, i64_w, i32_w]
                      rfl
                    refine pure_ (i := 12) (N := (some 107)) (v := ?_) (a' := ?_) #[true, true, true, true, true, true, true, true, true, true, true, true, true, false] rfl rfl (by kernel_rfl) (fun _ _ _ h => h) (Or.inl ⟨by rfl, ?_⟩) ?_ ?_
                    rotate_left
                    · intro w'
                      go_simp
                      with_reducible rfl
                    rotate_left
                    · simp only [Act.put, List.setIfInBounds_toArray, List.set_cons_zero, List.set_cons_succ, i64_w, i32_w]
                      rfl
                    refine pure_ (i := 13) (N := (some 108)) (v := ?_) (a' := ?_) #[true, true, true, true, true, true, true, true, true, true, true, true, true, true] rfl rfl (by kernel_rfl) (fun _ _ _ h => h) (Or.inl ⟨by rfl, ?_⟩) ?_ ?_
                    rotate_left
                    · intro w'
                      go_simp
                      with_reducible rfl
                    rotate_left
                    · simp only [Act.put, List.setIfInBounds_toArray, List.set_cons_zero, List.set_cons_succ, i64_w, i32_w]
                      rfl
                    refine done_ (by kernel_rfl) ?_
                    go_wp2_with fail
                    go_ret
                    exact ⟨by rw [HV.out]; rfl, Below.trans HW.out (Below.trans HR.out.2 (hHeld.mono HR.out.2.size) |>.mono HW.out.size)⟩
                | false =>
                  have hex : ∃ x ∈ l0.take jn, x.f0 = o.f0 := by
                    refine Classical.byContradiction fun hh => ?_
                    have := newIn_iff.2 (fun x hx he => hh ⟨x, hx, he⟩)
                    rw [HBN.out] at this
                    cases this
                  obtain ⟨x, hx, he⟩ := hex
                  have okn := Lib.hid (okNext_old HI.out.1 HFF.out HLL.out hx he (HR.out.1 x hx he))
                  clear hx he a1
                  go_wp2_with fail
                  go_quiet (fail)
                  go_wp2_with fail
                  go_roundw
                  case rel => exact ⟨jn + 1, by omega, by go_num, validFrom_next hlt HI.out.1 (by rw [HO.out, okn.out]), pw_below_drewN (Below.trans HW.out (HR.out.2.mono HW.out.size)) _⟩
                  case measure => simp [intOf]; omega
          · have hz : decide (0 < k) = true := decide_eq_true (by omega)
            have hk1 : k - 1 < l0.length := by omega
            obtain ⟨ad', ead, q0, q1, q2, q3, q4, q5, q6, q7⟩ := od_cells HCW.out hk1
            cases ead
            generalize hp : odAt l0 (k - 1) = p at *
            have HP := Lib.hid hp
            have z1 : (0 : Int) ≤ (k : Int) - 1 := by omega
            have z2 : (k : Int) - 1 < (l0.length : Int) := by omega
            have z6 : (1 : Int) ≤ (k : Int) := by omega
            have z3 : ((k : Int) - 1).toNat = k - 1 := by omega
            have z4 : IntKind.i64.wrap ((k : Int) - 1) = (k : Int) - 1 := IntWalk.i64_in _ (by omega)
            clear hp q0 q1 q2 q3 q5 q6 q7 hk1
            by_cases hle : p.f4 ≤ o.f4
            · have HLL := Lib.hid (show lastLe (l0.take k) o = true from by rw [← HO.out, lastLe_at hlt]; exact decide_eq_true (fun h => by rw [HP.out, HO.out]; exact hle))
              have z5 : decide (o.f4 < p.f4) = false := decide_eq_false (by omega)
              clear hle hk0
              go_wp2_with fail
              refine start_ (n := 24) (S := fun W => Below wr.heap.size wr W) (ds := []) #[false, false, false, false, false, false, false, false, false, false, false, false, false, false, false, false, false, false, false, false, false, false, false, false] (by kernel_rfl) rfl rfl (below_drew1 (Below.refl _ _)) (fun hHeld => ?_)
              refine pure_ (i := 0) (N := (some 15)) (v := ?_) (a' := ?_) #[true, false, false, false, false, false, false, false, false, false, false, false, false, false, false, false, false, false, false, false, false, false, false, false] rfl rfl (by kernel_rfl) (fun _ _ _ h => h) (Or.inl ⟨by rfl, ?_⟩) ?_ ?_
              rotate_left
              · intro w'
                go_simp
                with_reducible rfl
              rotate_left
              · simp only [Act.put, List.setIfInBounds_toArray, List.set_cons_zero, List.set_cons_succ, i64_w, i32_w]
                rfl
              refine pure_ (i := 1) (N := (some 16)) (v := ?_) (a' := ?_) #[true, true, false, false, false, false, false, false, false, false, false, false, false, false, false, false, false, false, false, false, false, false, false, false] rfl rfl (by kernel_rfl) (fun _ _ _ h => h) (Or.inl ⟨by rfl, ?_⟩) ?_ ?_
              rotate_left
              · intro w'
                go_simp
                with_reducible rfl
              rotate_left
              · simp only [Act.put, List.setIfInBounds_toArray, List.set_cons_zero, List.set_cons_succ, i64_w, i32_w]
                rfl
              refine pure_ (i := 2) (N := (some 17)) (v := ?_) (a' := ?_) #[true, true, true, false, false, false, false, false, false, false, false, false, false, false, false, false, false, false, false, false, false, false, false, false] rfl rfl (by kernel_rfl) (fun _ _ _ h => h) (Or.inl ⟨by rfl, ?_⟩) ?_ ?_
              rotate_left
              · intro w'
                go_simp
                with_reducible rfl
              rotate_left
              · simp only [Act.put, List.setIfInBounds_toArray, List.set_cons_zero, List.set_cons_succ, i64_w, i32_w]
                rfl
              refine take_ (i := 3) (N := (some 18)) (v := ?_) (a' := ?_) #[true, true, true, true, false, false, false, false, false, false, false, false, false, false, false, false, false, false, false, false, false, false, false, false] rfl rfl (by kernel_rfl) (fun _ _ _ h => h) (Or.inl ⟨by rfl, ?_⟩) hHeld ?_ ?_
              rotate_left
              · rintro w' sb
                have c0 := pw_cell_below sb a0
                have c1 := pw_cell_below sb a1
                have c2 := pw_cell_below sb a2
                have c3 := pw_cell_below sb a3
                have c4 := pw_cell_below sb a4
                have c5 := pw_cell_below sb a5
                have c6 := pw_cell_below sb a6
                have c7 := pw_cell_below sb a7
                have d4 := pw_cell_below sb q4
                clear sb
                go_simp
                with_reducible rfl
              rotate_left
              · simp only [Act.put, List.setIfInBounds_toArray, List.set_cons_zero, List.set_cons_succ, i64_w, i32_w]
                rfl
              refine one_ (i := 4) (N := (some 19)) #[true, true, true, true, true, false, false, false, false, false, false, false, false, false, false, false, false, false, false, false, false, false, false, false] rfl rfl (by kernel_rfl) (by decide) (fun K hK => ?_)
              refine goes_ Try.func24 (by kernel_rfl) rfl #[odV o] (by rfl) rfl rfl (by (try simp only [List.map_toArray, List.map_cons, List.map_nil]); first | done | rfl) ?_
              with_reducible refine (HF.out _).mono ?_
              rintro e w' ⟨rfl, hb⟩
              refine ⟨_, rfl, ?_⟩
              refine hK.out _ _ (below_step hHeld hb) (fun hHeld => ?_)
              clear hK K
              clear hb
              refine norm_ (a' := ?_) ?_ ?_
              rotate_left
              · show Act.put _ (some 19) _ = _
                simp only [Act.put, List.setIfInBounds_toArray, List.set_cons_zero, List.set_cons_succ, i64_w, i32_w]
                rfl
              refine pure_ (i := 5) (N := (some 20)) (v := ?_) (a' := ?_) #[true, true, true, true, true, true, false, false, false, false, false, false, false, false, false, false, false, false, false, false, false, false, false, false] rfl rfl (by kernel_rfl) (fun _ _ _ h => h) (Or.inl ⟨by rfl, ?_⟩) ?_ ?_
              rotate_left
              · intro w'
                go_simp
                with_reducible rfl
              rotate_left
              · simp only [Act.put, List.setIfInBounds_toArray, List.set_cons_zero, List.set_cons_succ, i64_w, i32_w]
                rfl
              refine pure_ (i := 6) (N := (some 21)) (v := ?_) (a' := ?_) #[true, true, true, true, true, true, true, false, false, false, false, false, false, false, false, false, false, false, false, false, false, false, false, false] rfl rfl (by kernel_rfl) (fun _ _ _ h => h) (Or.inl ⟨by rfl, ?_⟩) ?_ ?_
              rotate_left
              · intro w'
                go_simp
                with_reducible rfl
              rotate_left
              · simp only [Act.put, List.setIfInBounds_toArray, List.set_cons_zero, List.set_cons_succ, i64_w, i32_w]
                rfl
              refine pure_ (i := 7) (N := (some 22)) (v := ?_) (a' := ?_) #[true, true, true, true, true, true, true, true, false, false, false, false, false, false, false, false, false, false, false, false, false, false, false, false] rfl rfl (by kernel_rfl) (fun _ _ _ h => h) (Or.inl ⟨by rfl, ?_⟩) ?_ ?_
              rotate_left
              · intro w'
                go_simp
                with_reducible rfl
              rotate_left
              · simp only [Act.put, List.setIfInBounds_toArray, List.set_cons_zero, List.set_cons_succ, i64_w, i32_w]
                rfl
              refine pure_ (i := 8) (N := (some 23)) (v := ?_) (a' := ?_) #[true, true, true, true, true, true, true, true, true, false, false, false, false, false, false, false, false, false, false, false, false, false, false, false] rfl rfl (by kernel_rfl) (fun _ _ _ h => h) (Or.inl ⟨by rfl, ?_⟩) ?_ ?_
              rotate_left
              · intro w'
                go_simp
                with_reducible rfl
              rotate_left
              · simp only [Act.put, List.setIfInBounds_toArray, List.set_cons_zero, List.set_cons_succ, i64_w, i32_w]
                rfl
              refine pure_ (i := 9) (N := (some 24)) (v := ?_) (a' := ?_) #[true, true, true, true, true, true, true, true, true, true, false, false, false, false, false, false, false, false, false, false, false, false, false, false] rfl rfl (by kernel_rfl) (fun _ _ _ h => h) (Or.inl ⟨by rfl, ?_⟩) ?_ ?_
              rotate_left
              · intro w'
                go_simp
                with_reducible rfl
              rotate_left
              · simp only [Act.put, List.setIfInBounds_toArray, List.set_cons_zero, List.set_cons_succ, i64_w, i32_w]
                rfl
              refine pure_ (i := 10) (N := (some 25)) (v := ?_) (a' := ?_) #[true, true, true, true, true, true, true, true, true, true, true, false, false, false, false, false, false, false, false, false, false, false, false, false] rfl rfl (by kernel_rfl) (fun _ _ _ h => h) (Or.inl ⟨by rfl, ?_⟩) ?_ ?_
              rotate_left
              · intro w'
                go_simp
                with_reducible rfl
              rotate_left
              · simp only [Act.put, List.setIfInBounds_toArray, List.set_cons_zero, List.set_cons_succ, i64_w, i32_w]
                rfl
              refine pure_ (i := 11) (N := (some 26)) (v := ?_) (a' := ?_) #[true, true, true, true, true, true, true, true, true, true, true, true, false, false, false, false, false, false, false, false, false, false, false, false] rfl rfl (by kernel_rfl) (fun _ _ _ h => h) (Or.inl ⟨by rfl, ?_⟩) ?_ ?_
              rotate_left
              · intro w'
                go_simp
                with_reducible rfl
              rotate_left
              · simp only [Act.put, List.setIfInBounds_toArray, List.set_cons_zero, List.set_cons_succ, i64_w, i32_w]
                rfl
              refine pure_ (i := 12) (N := (some 27)) (v := ?_) (a' := ?_) #[true, true, true, true, true, true, true, true, true, true, true, true, true, false, false, false, false, false, false, false, false, false, false, false] rfl rfl (by kernel_rfl) (fun _ _ _ h => h) (Or.inl ⟨by rfl, ?_⟩) ?_ ?_
              rotate_left
              · intro w'
                go_simp
                with_reducible rfl
              rotate_left
              · simp only [Act.put, List.setIfInBounds_toArray, List.set_cons_zero, List.set_cons_succ, i64_w, i32_w]
                rfl
              refine pure_ (i := 13) (N := (some 28)) (v := ?_) (a' := ?_) #[true, true, true, true, true, true, true, true, true, true, true, true, true, true, false, false, false, false, false, false, false, false, false, false] rfl rfl (by kernel_rfl) (fun _ _ _ h => h) (Or.inl ⟨by rfl, ?_⟩) ?_ ?_
              rotate_left
              · intro w'
                go_simp
                with_reducible rfl
              rotate_left
              · simp only [Act.put, List.setIfInBounds_toArray, List.set_cons_zero, List.set_cons_succ, i64_w, i32_w]
                rfl
              refine pure_ (i := 14) (N := (some 29)) (v := ?_) (a' := ?_) #[true, true, true, true, true, true, true, true, true, true, true, true, true, true, true, false, false, false, false, false, false, false, false, false] rfl rfl (by kernel_rfl) (fun _ _ _ h => h) (Or.inl ⟨by rfl, ?_⟩) ?_ ?_
              rotate_left
              · intro w'
                go_simp
                with_reducible rfl
              rotate_left
              · simp only [Act.put, List.setIfInBounds_toArray, List.set_cons_zero, List.set_cons_succ, i64_w, i32_w]
                rfl
              refine take_ (i := 15) (N := (some 30)) (v := ?_) (a' := ?_) #[true, true, true, true, true, true, true, true, true, true, true, true, true, true, true, true, false, false, false, false, false, false, false, false] rfl rfl (by kernel_rfl) (fun _ _ _ h => h) (Or.inl ⟨by rfl, ?_⟩) hHeld ?_ ?_
              rotate_left
              · rintro w' sb
                have c0 := pw_cell_below sb a0
                have c1 := pw_cell_below sb a1
                have c2 := pw_cell_below sb a2
                have c3 := pw_cell_below sb a3
                have c4 := pw_cell_below sb a4
                have c5 := pw_cell_below sb a5
                have c6 := pw_cell_below sb a6
                have c7 := pw_cell_below sb a7
                have d4 := pw_cell_below sb q4
                clear sb
                go_simp
                with_reducible rfl
              rotate_left
              · simp only [Act.put, List.setIfInBounds_toArray, List.set_cons_zero, List.set_cons_succ, i64_w, i32_w]
                rfl
              refine pure_ (i := 16) (N := (some 31)) (v := ?_) (a' := ?_) #[true, true, true, true, true, true, true, true, true, true, true, true, true, true, true, true, true, false, false, false, false, false, false, false] rfl rfl (by kernel_rfl) (fun _ _ _ h => h) (Or.inl ⟨by rfl, ?_⟩) ?_ ?_
              rotate_left
              · intro w'
                go_simp
                with_reducible rfl
              rotate_left
              · simp only [Act.put, List.setIfInBounds_toArray, List.set_cons_zero, List.set_cons_succ, i64_w, i32_w]
                rfl
              refine pure_ (i := 17) (N := (some 32)) (v := ?_) (a' := ?_) #[true, true, true, true, true, true, true, true, true, true, true, true, true, true, true, true, true, true, false, false, false, false, false, false] rfl rfl (by kernel_rfl) (fun _ _ _ h => h) (Or.inl ⟨by rfl, ?_⟩) ?_ ?_
              rotate_left
              · intro w'
                go_simp
                with_reducible rfl
              rotate_left
              · simp only [Act.put, List.setIfInBounds_toArray, List.set_cons_zero, List.set_cons_succ, i64_w, i32_w]
                rfl
              refine pure_ (i := 18) (N := (some 33)) (v := ?_) (a' := ?_) #[true, true, true, true, true, true, true, true, true, true, true, true, true, true, true, true, true, true, true, false, false, false, false, false] rfl rfl (by kernel_rfl) (fun _ _ _ h => h) (Or.inl ⟨by rfl, ?_⟩) ?_ ?_
              rotate_left
              · intro w'
                go_simp
                with_reducible rfl
              rotate_left
              · simp only [Act.put, List.setIfInBounds_toArray, List.set_cons_zero, List.set_cons_succ, i64_w, i32_w]
                rfl
              refine pure_ (i := 19) (N := (some 34)) (v := ?_) (a' := ?_) #[true, true, true, true, true, true, true, true, true, true, true, true, true, true, true, true, true, true, true, true, false, false, false, false] rfl rfl (by kernel_rfl) (fun _ _ _ h => h) (Or.inl ⟨by rfl, ?_⟩) ?_ ?_
              rotate_left
              · intro w'
                go_simp
                with_reducible rfl
              rotate_left
              · simp only [Act.put, List.setIfInBounds_toArray, List.set_cons_zero, List.set_cons_succ, i64_w, i32_w]
                rfl
              refine take_ (i := 20) (N := (some 35)) (v := ?_) (a' := ?_) #[true, true, true, true, true, true, true, true, true, true, true, true, true, true, true, true, true, true, true, true, true, false, false, false] rfl rfl (by kernel_rfl) (fun _ _ _ h => h) (Or.inl ⟨by rfl, ?_⟩) hHeld ?_ ?_
              rotate_left
              · rintro w' sb
                have c0 := pw_cell_below sb a0
                have c1 := pw_cell_below sb a1
                have c2 := pw_cell_below sb a2
                have c3 := pw_cell_below sb a3
                have c4 := pw_cell_below sb a4
                have c5 := pw_cell_below sb a5
                have c6 := pw_cell_below sb a6
                have c7 := pw_cell_below sb a7
                have d4 := pw_cell_below sb q4
                clear sb
                go_simp
                with_reducible rfl
              rotate_left
              · simp only [Act.put, List.setIfInBounds_toArray, List.set_cons_zero, List.set_cons_succ, i64_w, i32_w]
                rfl
              refine pure_ (i := 21) (N := (some 36)) (v := ?_) (a' := ?_) #[true, true, true, true, true, true, true, true, true, true, true, true, true, true, true, true, true, true, true, true, true, true, false, false] rfl rfl (by kernel_rfl) (fun _ _ _ h => h) (Or.inl ⟨by rfl, ?_⟩) ?_ ?_
              rotate_left
              · intro w'
                go_simp
                with_reducible rfl
              rotate_left
              · simp only [Act.put, List.setIfInBounds_toArray, List.set_cons_zero, List.set_cons_succ, i64_w, i32_w]
                rfl
              refine pure_ (i := 22) (N := (some 37)) (v := ?_) (a' := ?_) #[true, true, true, true, true, true, true, true, true, true, true, true, true, true, true, true, true, true, true, true, true, true, true, false] rfl rfl (by kernel_rfl) (fun _ _ _ h => h) (Or.inl ⟨by rfl, ?_⟩) ?_ ?_
              rotate_left
              · intro w'
                go_simp
                with_reducible rfl
              rotate_left
              · simp only [Act.put, List.setIfInBounds_toArray, List.set_cons_zero, List.set_cons_succ, i64_w, i32_w]
                rfl
              refine pure_ (i := 23) (N := (some 38)) (v := ?_) (a' := ?_) #[true, true, true, true, true, true, true, true, true, true, true, true, true, true, true, true, true, true, true, true, true, true, true, true] rfl rfl (by kernel_rfl) (fun _ _ _ h => h) (Or.inl ⟨by rfl, ?_⟩) ?_ ?_
              rotate_left
              · intro w'
                go_simp
                with_reducible rfl
              rotate_left
              · simp only [Act.put, List.setIfInBounds_toArray, List.set_cons_zero, List.set_cons_succ, i64_w, i32_w]
                rfl
              refine done_ (by kernel_rfl) ?_
              clear z1 z2 z3 z4 z5 z6 q4
              go_wp2_with fail
              have HW := Lib.hid (below_step HB.out hHeld)
              have HOW := Lib.hid (And.intro (pw_cell_below hHeld a0) (And.intro (pw_cell_below hHeld a1) (pw_cell_below hHeld a2)))
              obtain ⟨wo, hwo⟩ : ∃ wo : World, wo = w' := ⟨_, rfl⟩
              subst hwo
              clear hHeld a0 a1 a2 a3 a4 a5 a6 a7
              go_loopw [4, 5] (fun f j wr2 => ∃ jn : Nat, jn ≤ k ∧ f = .bool (newIn (l0.take jn) o) ∧ j = .int .i64 jn ∧ RIn l0 wo o jn wr2) (fun _ j _ => k - (intOf j).toNat)
              case atStart => exact ⟨0, Nat.zero_le _, rfl, rfl, by simp, Below.refl _ _⟩
              case round =>
                obtain ⟨jn, hjn, rfl, rfl, hR⟩ := hrel
                have HR := Lib.hid hR
                clear hR
                have hb : ∃ b, newIn (l0.take jn) o = b := ⟨_, rfl⟩
                obtain ⟨b, hb⟩ := hb
                by_cases hjk : jn < k
                · have hjl : jn < l0.length := by omega
                  obtain ⟨adx, eadx, x0, x1, x2, x3, x4, x5, x6, x7⟩ := od_cells (Kd.C_below HC.out (Below.trans HW.out (HR.out.2.mono HW.out.size))) hjl
                  cases eadx
                  have a0 := pw_cell_below HR.out.2 HOW.out.1
                  have a1 := pw_cell_below HR.out.2 HOW.out.2.1
                  have a2 := pw_cell_below HR.out.2 HOW.out.2.2
                  have HT := Lib.hid (take_odAt hjl)
                  generalize hx : odAt l0 jn = x at *
                  have HX := Lib.hid hx
                  have HBN := Lib.hid hb
                  rw [hb]
                  clear hx hb x3 x4 x5 x6 x7
                  cases b with
                  | true =>
                    by_cases he : x.f0 = o.f0
                    · rw [he] at x0
                      have HE := Lib.hid he
                      clear he
                      by_cases he1 : x.f1 = o.f1
                      · rw [he1] at x1
                        have HE1 := Lib.hid he1
                        clear he1
                        by_cases he2 : x.f2 = o.f2
                        · rw [he2] at x2
                          have HE2 := Lib.hid he2
                          clear he2
                          go_wp2_with fail
                          go_quiet (fail)
                          go_wp2_with fail
                          go_quiet (fail)
                          go_wp2_with fail
                          go_roundw
                          case rel =>
                            refine ⟨jn + 1, by omega, ?_, by go_num, ?_, (by repeat (first | exact HR.out.2 | apply pw_below_drewN))⟩
                            · rw [HT.out, newIn_snoc, HBN.out, HE.out]
                              simp
                            · rw [HT.out]
                              intro y hy hyo
                              rcases List.mem_append.1 hy with hy | hy
                              · exact HR.out.1 y hy hyo
                              · rw [List.mem_singleton.1 hy]
                                exact ⟨HE1.out, HE2.out⟩
                          case measure => simp [intOf]; omega
                        · have ne : ¬ x.f2.toList = o.f2.toList := fun h => he2 (str_eq.1 h)
                          have ne' : (x.f2.toList == o.f2.toList) = false := beq_eq_false_iff_ne.2 ne
                          have HV := Lib.hid (valid_stop hlt (by rw [HO.out]; exact okNext_diff (x := x) (by rw [← List.take_append_drop (jn + 1) (l0.take k), List.take_take, Nat.min_eq_left (by omega), HT.out]; simp) HE.out (fun h => he2 h.2)))
                          clear he2
                          go_wp2_with fail
                          go_quiet (fail)
                          go_wp2_with fail
                          go_ret
                          exact ⟨by rw [HV.out]; rfl, pw_below_drewN (Below.trans HW.out (HR.out.2.mono HW.out.size)) _⟩
                      · have ne : ¬ x.f1.toList = o.f1.toList := fun h => he1 (str_eq.1 h)
                        have ne' : (x.f1.toList == o.f1.toList) = false := beq_eq_false_iff_ne.2 ne
                        have HV := Lib.hid (valid_stop hlt (by rw [HO.out]; exact okNext_diff (x := x) (by rw [← List.take_append_drop (jn + 1) (l0.take k), List.take_take, Nat.min_eq_left (by omega), HT.out]; simp) HE.out (fun h => he1 h.1)))
                        clear he1
                        go_wp2_with fail
                        go_quiet (fail)
                        go_wp2_with fail
                        go_ret
                        exact ⟨by rw [HV.out]; rfl, pw_below_drewN (Below.trans HW.out (HR.out.2.mono HW.out.size)) _⟩
                    · have ne : (x.f0 == o.f0) = false := beq_eq_false_iff_ne.2 he
                      have ne' : decide (x.f0 = o.f0) = false := decide_eq_false he
                      have HE := Lib.hid he
                      clear he
                      go_wp2_with fail
                      go_quiet (fail)
                      go_wp2_with fail
                      go_quiet (fail)
                      go_wp2_with fail
                      go_roundw
                      case rel =>
                        refine ⟨jn + 1, by omega, ?_, by go_num, ?_, (by repeat (first | exact HR.out.2 | apply pw_below_drewN))⟩
                        · rw [HT.out, newIn_snoc, HBN.out]
                          simp [HE.out]
                        · rw [HT.out]
                          intro y hy hyo
                          rcases List.mem_append.1 hy with hy | hy
                          · exact HR.out.1 y hy hyo
                          · rw [List.mem_singleton.1 hy] at hyo
                            exact absurd hyo HE.out
                      case measure => simp [intOf]; omega
                  | false =>
                    by_cases he : x.f0 = o.f0
                    · rw [he] at x0
                      have HE := Lib.hid he
                      clear he
                      by_cases he1 : x.f1 = o.f1
                      · rw [he1] at x1
                        have HE1 := Lib.hid he1
                        clear he1
                        by_cases he2 : x.f2 = o.f2
                        · rw [he2] at x2
                          have HE2 := Lib.hid he2
                          clear he2
                          go_wp2_with fail
                          go_quiet (fail)
                          go_wp2_with fail
                          go_quiet (fail)
                          go_wp2_with fail
                          go_roundw
                          case rel =>
                            refine ⟨jn + 1, by omega, ?_, by go_num, ?_, (by repeat (first | exact HR.out.2 | apply pw_below_drewN))⟩
                            · rw [HT.out, newIn_snoc, HBN.out, HE.out]
                              simp
                            · rw [HT.out]
                              intro y hy hyo
                              rcases List.mem_append.1 hy with hy | hy
                              · exact HR.out.1 y hy hyo
                              · rw [List.mem_singleton.1 hy]
                                exact ⟨HE1.out, HE2.out⟩
                          case measure => simp [intOf]; omega
                        · have ne : ¬ x.f2.toList = o.f2.toList := fun h => he2 (str_eq.1 h)
                          have ne' : (x.f2.toList == o.f2.toList) = false := beq_eq_false_iff_ne.2 ne
                          have HV := Lib.hid (valid_stop hlt (by rw [HO.out]; exact okNext_diff (x := x) (by rw [← List.take_append_drop (jn + 1) (l0.take k), List.take_take, Nat.min_eq_left (by omega), HT.out]; simp) HE.out (fun h => he2 h.2)))
                          clear he2
                          go_wp2_with fail
                          go_quiet (fail)
                          go_wp2_with fail
                          go_ret
                          exact ⟨by rw [HV.out]; rfl, pw_below_drewN (Below.trans HW.out (HR.out.2.mono HW.out.size)) _⟩
                      · have ne : ¬ x.f1.toList = o.f1.toList := fun h => he1 (str_eq.1 h)
                        have ne' : (x.f1.toList == o.f1.toList) = false := beq_eq_false_iff_ne.2 ne
                        have HV := Lib.hid (valid_stop hlt (by rw [HO.out]; exact okNext_diff (x := x) (by rw [← List.take_append_drop (jn + 1) (l0.take k), List.take_take, Nat.min_eq_left (by omega), HT.out]; simp) HE.out (fun h => he1 h.1)))
                        clear he1
                        go_wp2_with fail
                        go_quiet (fail)
                        go_wp2_with fail
                        go_ret
                        exact ⟨by rw [HV.out]; rfl, pw_below_drewN (Below.trans HW.out (HR.out.2.mono HW.out.size)) _⟩
                    · have ne : (x.f0 == o.f0) = false := beq_eq_false_iff_ne.2 he
                      have ne' : decide (x.f0 = o.f0) = false := decide_eq_false he
                      have HE := Lib.hid he
                      clear he
                      go_wp2_with fail
                      go_quiet (fail)
                      go_wp2_with fail
                      go_quiet (fail)
                      go_wp2_with fail
                      go_roundw
                      case rel =>
                        refine ⟨jn + 1, by omega, ?_, by go_num, ?_, (by repeat (first | exact HR.out.2 | apply pw_below_drewN))⟩
                        · rw [HT.out, newIn_snoc, HBN.out]
                          simp [HE.out]
                        · rw [HT.out]
                          intro y hy hyo
                          rcases List.mem_append.1 hy with hy | hy
                          · exact HR.out.1 y hy hyo
                          · rw [List.mem_singleton.1 hy] at hyo
                            exact absurd hyo HE.out
                      case measure => simp [intOf]; omega
                · obtain rfl : jn = k := by omega
                  clear hjk
                  have HBN := Lib.hid hb
                  rw [hb]
                  clear hb
                  have a1 := pw_cell_below HR.out.2 HOW.out.2.1
                  cases b with
                  | true =>
                    have okn := Lib.hid (okNext_new HFF.out HLL.out (newIn_iff.1 HBN.out))
                    have HCR := Lib.hid (Kd.C_below HC.out (Below.trans HW.out (HR.out.2.mono HW.out.size)))
                    have hnt := nums_take hlt o.f1
                    rw [HO.out, HBN.out, if_pos ⟨rfl, rfl⟩] at hnt
                    have hle : nums o.f1 [] (l0.take jn) ≤ 400 := Nat.le_trans (nums_le _ _ _) (by rw [List.length_take]; omega)
                    generalize hN : nums o.f1 [] (l0.take jn) = nn at *
                    generalize hM : nums o.f1 [] (l0.take (jn + 1)) = mm at *
                    have HN := Lib.hid hN
                    have HM := Lib.hid hM
                    have HNM := Lib.hid hnt
                    clear hN hM hnt
                    have z1 : (0 : Int) ≤ (jn : Int) + 1 := by omega
                    have z2 : (jn : Int) + 1 ≤ (c0 : Int) := by have := HL.out; omega
                    have z3 : ((jn : Int) + 1).toNat = jn + 1 := by omega
                    have z4 : IntKind.i64.wrap ((jn : Int) + 1) = (jn : Int) + 1 := IntWalk.i64_in _ (by omega)
                    by_cases h16 : mm ≤ 16
                    · have z5 : ¬ (16 : Int) < (mm : Int) := by omega
                      go_wp2_with fail
                      refine start_ (n := 14) (S := fun W => Below wr.heap.size wr W) (ds := []) #[false, false, false, false, false, false, false, false, false, false, false, false, false, false] (by kernel_rfl) rfl rfl (below_drew1 (Below.refl _ _)) (fun hHeld => ?_)
                      refine pure_ (i := 0) (N := (some 95)) (v := ?_) (a' := ?_) #[true, false, false, false, false, false, false, false, false, false, false, false, false, false] rfl rfl (by kernel_rfl) (fun _ _ _ h => h) (Or.inl ⟨by rfl, ?_⟩) ?_ ?_
                      rotate_left
                      · intro w'
                        go_simp
                        with_reducible rfl
                      rotate_left
                      · simp only [Act.put, List.setIfInBounds_toArray, List.set_cons_zero, List.set_cons_succ, i64_w, i32_w]
                        rfl
                      refine pure_ (i := 1) (N := (some 96)) (v := ?_) (a' := ?_) #[true, true, false, false, false, false, false, false, false, false, false, false, false, false] rfl rfl (by kernel_rfl) (fun _ _ _ h => h) (Or.inl ⟨by rfl, ?_⟩) ?_ ?_
                      rotate_left
                      · intro w'
                        go_simp
                        with_reducible rfl
                      rotate_left
                      · simp only [Act.put, List.setIfInBounds_toArray, List.set_cons_zero, List.set_cons_succ, i64_w, i32_w]
                        rfl
                      refine pure_ (i := 2) (N := (some 97)) (v := ?_) (a' := ?_) #[true, true, true, false, false, false, false, false, false, false, false, false, false, false] rfl rfl (by kernel_rfl) (fun _ _ _ h => h) (Or.inl ⟨by rfl, ?_⟩) ?_ ?_
                      rotate_left
                      · intro w'
                        go_simp
                        with_reducible rfl
                      rotate_left
                      · simp only [Act.put, List.setIfInBounds_toArray, List.set_cons_zero, List.set_cons_succ, i64_w, i32_w]
                        rfl
                      refine pure_ (i := 3) (N := (some 98)) (v := ?_) (a' := ?_) #[true, true, true, true, false, false, false, false, false, false, false, false, false, false] rfl rfl (by kernel_rfl) (fun _ _ _ h => h) (Or.inl ⟨by rfl, ?_⟩) ?_ ?_
                      rotate_left
                      · intro w'
                        go_simp
                        with_reducible rfl
                      rotate_left
                      · simp only [Act.put, List.setIfInBounds_toArray, List.set_cons_zero, List.set_cons_succ, i64_w, i32_w]
                        rfl
                      refine pure_ (i := 4) (N := (some 99)) (v := ?_) (a' := ?_) #[true, true, true, true, true, false, false, false, false, false, false, false, false, false] rfl rfl (by kernel_rfl) (fun _ _ _ h => h) (Or.inl ⟨by rfl, ?_⟩) ?_ ?_
                      rotate_left
                      · intro w'
                        go_simp
                        with_reducible rfl
                      rotate_left
                      · simp only [Act.put, List.setIfInBounds_toArray, List.set_cons_zero, List.set_cons_succ, i64_w, i32_w]
                        rfl
                      refine pure_ (i := 5) (N := (some 100)) (v := ?_) (a' := ?_) #[true, true, true, true, true, true, false, false, false, false, false, false, false, false] rfl rfl (by kernel_rfl) (fun _ _ _ h => h) (Or.inl ⟨by rfl, ?_⟩) ?_ ?_
                      rotate_left
                      · intro w'
                        go_simp
                        with_reducible rfl
                      rotate_left
                      · simp only [Act.put, List.setIfInBounds_toArray, List.set_cons_zero, List.set_cons_succ, i64_w, i32_w]
                        rfl
                      refine pure_ (i := 6) (N := (some 101)) (v := ?_) (a' := ?_) #[true, true, true, true, true, true, true, false, false, false, false, false, false, false] rfl rfl (by kernel_rfl) (fun _ _ _ h => h) (Or.inl ⟨by rfl, ?_⟩) ?_ ?_
                      rotate_left
                      · intro w'
                        go_simp
                        with_reducible rfl
                      rotate_left
                      · simp only [Act.put, List.setIfInBounds_toArray, List.set_cons_zero, List.set_cons_succ, i64_w, i32_w]
                        rfl
                      refine pure_ (i := 7) (N := (some 102)) (v := ?_) (a' := ?_) #[true, true, true, true, true, true, true, true, false, false, false, false, false, false] rfl rfl (by kernel_rfl) (fun _ _ _ h => h) (Or.inl ⟨by rfl, ?_⟩) ?_ ?_
                      rotate_left
                      · intro w'
                        go_simp
                        with_reducible rfl
                      rotate_left
                      · simp only [Act.put, List.setIfInBounds_toArray, List.set_cons_zero, List.set_cons_succ, i64_w, i32_w]
                        rfl
                      refine pure_ (i := 8) (N := (some 103)) (v := ?_) (a' := ?_) #[true, true, true, true, true, true, true, true, true, false, false, false, false, false] rfl rfl (by kernel_rfl) (fun _ _ _ h => h) (Or.inl ⟨by rfl, ?_⟩) ?_ ?_
                      rotate_left
                      · intro w'
                        go_simp
                        with_reducible rfl
                      rotate_left
                      · simp only [Act.put, List.setIfInBounds_toArray, List.set_cons_zero, List.set_cons_succ, i64_w, i32_w]
                        rfl
                      refine pure_ (i := 9) (N := (some 104)) (v := ?_) (a' := ?_) #[true, true, true, true, true, true, true, true, true, true, false, false, false, false] rfl rfl (by kernel_rfl) (fun _ _ _ h => h) (Or.inl ⟨by rfl, ?_⟩) ?_ ?_
                      rotate_left
                      · intro w'
                        go_simp
                        with_reducible rfl
                      rotate_left
                      · simp only [Act.put, List.setIfInBounds_toArray, List.set_cons_zero, List.set_cons_succ, i64_w, i32_w]
                        rfl
                      refine take_ (i := 10) (N := (some 105)) (v := ?_) (a' := ?_) #[true, true, true, true, true, true, true, true, true, true, true, false, false, false] rfl rfl (by kernel_rfl) (fun _ _ _ h => h) (Or.inl ⟨by rfl, ?_⟩) hHeld ?_ ?_
                      rotate_left
                      · rintro w' sb
                        have c1 := pw_cell_below sb a1
                        clear sb
                        go_simp
                        with_reducible rfl
                      rotate_left
                      · simp only [Act.put, List.setIfInBounds_toArray, List.set_cons_zero, List.set_cons_succ, i64_w, i32_w]
                        rfl
                      refine one_ (i := 11) (N := (some 106)) #[true, true, true, true, true, true, true, true, true, true, true, true, false, false] rfl rfl (by kernel_rfl) (by decide) (fun K hK => ?_)
                      refine goes_ Try.func25 (by kernel_rfl) rfl #[.slice (some ad) (jn + 1) c0, .string o.f1] (by rfl) rfl rfl (by (try simp only [List.map_toArray, List.map_cons, List.map_nil]); first | done | rfl) ?_
                      with_reducible refine (numsC _ _ l0 _ (jn + 1) hlen (by omega) _ (Kd.C_below HCR.out hHeld) HL.out).mono ?_
                      rintro e w' ⟨rfl, hb⟩
                      refine ⟨_, rfl, ?_⟩
                      refine hK.out _ _ (below_step hHeld hb) (fun hHeld => ?_)
                      clear hK K
                      clear hb
                      rw [HM.out]
                      refine norm_ (a' := ?_) ?_ ?_
                      rotate_left
                      · show Act.put _ (some 106) _ = _
                        simp only [Act.put, List.setIfInBounds_toArray, List.set_cons_zero, List.set_cons_succ, i64_w, i32_w]
                        rfl
                      refine pure_ (i := 12) (N := (some 107)) (v := ?_) (a' := ?_) #[true, true, true, true, true, true, true, true, true, true, true, true, true, false] rfl rfl (by kernel_rfl) (fun _ _ _ h => h) (Or.inl ⟨by rfl, ?_⟩) ?_ ?_
                      rotate_left
                      · intro w'
                        go_simp
                        with_reducible rfl
                      rotate_left
                      · simp only [Act.put, List.setIfInBounds_toArray, List.set_cons_zero, List.set_cons_succ, i64_w, i32_w]
                        rfl
                      refine pure_ (i := 13) (N := (some 108)) (v := ?_) (a' := ?_) #[true, true, true, true, true, true, true, true, true, true, true, true, true, true] rfl rfl (by kernel_rfl) (fun _ _ _ h => h) (Or.inl ⟨by rfl, ?_⟩) ?_ ?_
                      rotate_left
                      · intro w'
                        go_simp
                        with_reducible rfl
                      rotate_left
                      · simp only [Act.put, List.setIfInBounds_toArray, List.set_cons_zero, List.set_cons_succ, i64_w, i32_w]
                        rfl
                      refine done_ (by kernel_rfl) ?_
                      go_wp2_with fail
                      go_roundw
                      case rel => exact ⟨jn + 1, by omega, by go_num, validFrom_next hlt HI.out.1 (by rw [HO.out, okn.out]; exact decide_eq_true (by have := HNM.out; omega)), Below.trans HW.out (Below.trans HR.out.2 (hHeld.mono HR.out.2.size) |>.mono HW.out.size)⟩
                      case measure => simp [intOf]; omega
                    · have z5 : (16 : Int) < (mm : Int) := by omega
                      have HV := Lib.hid (valid_stop hlt (by rw [HO.out, okn.out]; exact decide_eq_false (by have := HNM.out; omega)))
                      go_wp2_with fail
                      refine start_ (n := 14) (S := fun W => Below wr.heap.size wr W) (ds := []) #[false, false, false, false, false, false, false, false, false, false, false, false, false, false] (by kernel_rfl) rfl rfl (below_drew1 (Below.refl _ _)) (fun hHeld => ?_)
                      refine pure_ (i := 0) (N := (some 95)) (v := ?_) (a' := ?_) #[true, false, false, false, false, false, false, false, false, false, false, false, false, false] rfl rfl (by kernel_rfl) (fun _ _ _ h => h) (Or.inl ⟨by rfl, ?_⟩) ?_ ?_
                      rotate_left
                      · intro w'
                        go_simp
                        with_reducible rfl
                      rotate_left
                      · simp only [Act.put, List.setIfInBounds_toArray, List.set_cons_zero, List.set_cons_succ, i64_w, i32_w]
                        rfl
                      refine pure_ (i := 1) (N := (some 96)) (v := ?_) (a' := ?_) #[true, true, false, false, false, false, false, false, false, false, false, false, false, false] rfl rfl (by kernel_rfl) (fun _ _ _ h => h) (Or.inl ⟨by rfl, ?_⟩) ?_ ?_
                      rotate_left
                      · intro w'
                        go_simp
                        with_reducible rfl
                      rotate_left
                      · simp only [Act.put, List.setIfInBounds_toArray, List.set_cons_zero, List.set_cons_succ, i64_w, i32_w]
                        rfl
                      refine pure_ (i := 2) (N := (some 97)) (v := ?_) (a' := ?_) #[true, true, true, false, false, false, false, false, false, false, false, false, false, false] rfl rfl (by kernel_rfl) (fun _ _ _ h => h) (Or.inl ⟨by rfl, ?_⟩) ?_ ?_
                      rotate_left
                      · intro w'
                        go_simp
                        with_reducible rfl
                      rotate_left
                      · simp only [Act.put, List.setIfInBounds_toArray, List.set_cons_zero, List.set_cons_succ, i64_w, i32_w]
                        rfl
                      refine pure_ (i := 3) (N := (some 98)) (v := ?_) (a' := ?_) #[true, true, true, true, false, false, false, false, false, false, false, false, false, false] rfl rfl (by kernel_rfl) (fun _ _ _ h => h) (Or.inl ⟨by rfl, ?_⟩) ?_ ?_
                      rotate_left
                      · intro w'
                        go_simp
                        with_reducible rfl
                      rotate_left
                      · simp only [Act.put, List.setIfInBounds_toArray, List.set_cons_zero, List.set_cons_succ, i64_w, i32_w]
                        rfl
                      refine pure_ (i := 4) (N := (some 99)) (v := ?_) (a' := ?_) #[true, true, true, true, true, false, false, false, false, false, false, false, false, false] rfl rfl (by kernel_rfl) (fun _ _ _ h => h) (Or.inl ⟨by rfl, ?_⟩) ?_ ?_
                      rotate_left
                      · intro w'
                        go_simp
                        with_reducible rfl
                      rotate_left
                      · simp only [Act.put, List.setIfInBounds_toArray, List.set_cons_zero, List.set_cons_succ, i64_w, i32_w]
                        rfl
                      refine pure_ (i := 5) (N := (some 100)) (v := ?_) (a' := ?_) #[true, true, true, true, true, true, false, false, false, false, false, false, false, false] rfl rfl (by kernel_rfl) (fun _ _ _ h => h) (Or.inl ⟨by rfl, ?_⟩) ?_ ?_
                      rotate_left
                      · intro w'
                        go_simp
                        with_reducible rfl
                      rotate_left
                      · simp only [Act.put, List.setIfInBounds_toArray, List.set_cons_zero, List.set_cons_succ, i64_w, i32_w]
                        rfl
                      refine pure_ (i := 6) (N := (some 101)) (v := ?_) (a' := ?_) #[true, true, true, true, true, true, true, false, false, false, false, false, false, false] rfl rfl (by kernel_rfl) (fun _ _ _ h => h) (Or.inl ⟨by rfl, ?_⟩) ?_ ?_
                      rotate_left
                      · intro w'
                        go_simp
                        with_reducible rfl
                      rotate_left
                      · simp only [Act.put, List.setIfInBounds_toArray, List.set_cons_zero, List.set_cons_succ, i64_w, i32_w]
                        rfl
                      refine pure_ (i := 7) (N := (some 102)) (v := ?_) (a' := ?_) #[true, true, true, true, true, true, true, true, false, false, false, false, false, false] rfl rfl (by kernel_rfl) (fun _ _ _ h => h) (Or.inl ⟨by rfl, ?_⟩) ?_ ?_
                      rotate_left
                      · intro w'
                        go_simp
                        with_reducible rfl
                      rotate_left
                      · simp only [Act.put, List.setIfInBounds_toArray, List.set_cons_zero, List.set_cons_succ, i64_w, i32_w]
                        rfl
                      refine pure_ (i := 8) (N := (some 103)) (v := ?_) (a' := ?_) #[true, true, true, true, true, true, true, true, true, false, false, false, false, false] rfl rfl (by kernel_rfl) (fun _ _ _ h => h) (Or.inl ⟨by rfl, ?_⟩) ?_ ?_
                      rotate_left
                      · intro w'
                        go_simp
                        with_reducible rfl
                      rotate_left
                      · simp only [Act.put, List.setIfInBounds_toArray, List.set_cons_zero, List.set_cons_succ, i64_w, i32_w]
                        rfl
                      refine pure_ (i := 9) (N := (some 104)) (v := ?_) (a' := ?_) #[true, true, true, true, true, true, true, true, true, true, false, false, false, false] rfl rfl (by kernel_rfl) (fun _ _ _ h => h) (Or.inl ⟨by rfl, ?_⟩) ?_ ?_
                      rotate_left
                      · intro w'
                        go_simp
                        with_reducible rfl
                      rotate_left
                      · simp only [Act.put, List.setIfInBounds_toArray, List.set_cons_zero, List.set_cons_succ, i64_w, i32_w]
                        rfl
                      refine take_ (i := 10) (N := (some 105)) (v := ?_) (a' := ?_) #[true, true, true, true, true, true, true, true, true, true, true, false, false, false] rfl rfl (by kernel_rfl) (fun _ _ _ h => h) (Or.inl ⟨by rfl, ?_⟩) hHeld ?_ ?_
                      rotate_left
                      · rintro w' sb
                        have c1 := pw_cell_below sb a1
                        clear sb
                        go_simp
                        with_reducible rfl
                      rotate_left
                      · simp only [Act.put, List.setIfInBounds_toArray, List.set_cons_zero, List.set_cons_succ, i64_w, i32_w]
                        rfl
                      refine one_ (i := 11) (N := (some 106)) #[true, true, true, true, true, true, true, true, true, true, true, true, false, false] rfl rfl (by kernel_rfl) (by decide) (fun K hK => ?_)
                      refine goes_ Try.func25 (by kernel_rfl) rfl #[.slice (some ad) (jn + 1) c0, .string o.f1] (by rfl) rfl rfl (by (try simp only [List.map_toArray, List.map_cons, List.map_nil]); first | done | rfl) ?_
                      with_reducible refine (numsC _ _ l0 _ (jn + 1) hlen (by omega) _ (Kd.C_below HCR.out hHeld) HL.out).mono ?_
                      rintro e w' ⟨rfl, hb⟩
                      refine ⟨_, rfl, ?_⟩
                      refine hK.out _ _ (below_step hHeld hb) (fun hHeld => ?_)
                      clear hK K
                      clear hb
                      rw [HM.out]
                      refine norm_ (a' := ?_) ?_ ?_
                      rotate_left
                      · show Act.put _ (some 106) _ = _
                        simp only [Act.put, List.setIfInBounds_toArray, List.set_cons_zero, List.set_cons_succ, i64_w, i32_w]
                        rfl
                      refine pure_ (i := 12) (N := (some 107)) (v := ?_) (a' := ?_) #[true, true, true, true, true, true, true, true, true, true, true, true, true, false] rfl rfl (by kernel_rfl) (fun _ _ _ h => h) (Or.inl ⟨by rfl, ?_⟩) ?_ ?_
                      rotate_left
                      · intro w'
                        go_simp
                        with_reducible rfl
                      rotate_left
                      · simp only [Act.put, List.setIfInBounds_toArray, List.set_cons_zero, List.set_cons_succ, i64_w, i32_w]
                        rfl
                      refine pure_ (i := 13) (N := (some 108)) (v := ?_) (a' := ?_) #[true, true, true, true, true, true, true, true, true, true, true, true, true, true] rfl rfl (by kernel_rfl) (fun _ _ _ h => h) (Or.inl ⟨by rfl, ?_⟩) ?_ ?_
                      rotate_left
                      · intro w'
                        go_simp
                        with_reducible rfl
                      rotate_left
                      · simp only [Act.put, List.setIfInBounds_toArray, List.set_cons_zero, List.set_cons_succ, i64_w, i32_w]
                        rfl
                      refine done_ (by kernel_rfl) ?_
                      go_wp2_with fail
                      go_ret
                      exact ⟨by rw [HV.out]; rfl, Below.trans HW.out (Below.trans HR.out.2 (hHeld.mono HR.out.2.size) |>.mono HW.out.size)⟩
                  | false =>
                    have hex : ∃ x ∈ l0.take jn, x.f0 = o.f0 := by
                      refine Classical.byContradiction fun hh => ?_
                      have := newIn_iff.2 (fun x hx he => hh ⟨x, hx, he⟩)
                      rw [HBN.out] at this
                      cases this
                    obtain ⟨x, hx, he⟩ := hex
                    have okn := Lib.hid (okNext_old HI.out.1 HFF.out HLL.out hx he (HR.out.1 x hx he))
                    clear hx he a1
                    go_wp2_with fail
                    go_quiet (fail)
                    go_wp2_with fail
                    go_roundw
                    case rel => exact ⟨jn + 1, by omega, by go_num, validFrom_next hlt HI.out.1 (by rw [HO.out, okn.out]), pw_below_drewN (Below.trans HW.out (HR.out.2.mono HW.out.size)) _⟩
                    case measure => simp [intOf]; omega
            · have HV := Lib.hid (valid_stop hlt (by rw [HO.out]; unfold okNext; rw [show lastLe (l0.take k) o = false from by rw [← HO.out, lastLe_at hlt]; exact decide_eq_false (fun h => by rw [HP.out, HO.out] at h; exact hle (h (by omega)))]; simp))
              have z5 : decide (o.f4 < p.f4) = true := decide_eq_true (by omega)
              clear hle hk0
              go_wp2_with fail
              refine start_ (n := 24) (S := fun W => Below wr.heap.size wr W) (ds := []) #[false, false, false, false, false, false, false, false, false, false, false, false, false, false, false, false, false, false, false, false, false, false, false, false] (by kernel_rfl) rfl rfl (below_drew1 (Below.refl _ _)) (fun hHeld => ?_)
              refine pure_ (i := 0) (N := (some 15)) (v := ?_) (a' := ?_) #[true, false, false, false, false, false, false, false, false, false, false, false, false, false, false, false, false, false, false, false, false, false, false, false] rfl rfl (by kernel_rfl) (fun _ _ _ h => h) (Or.inl ⟨by rfl, ?_⟩) ?_ ?_
              rotate_left
              · intro w'
                go_simp
                with_reducible rfl
              rotate_left
              · simp only [Act.put, List.setIfInBounds_toArray, List.set_cons_zero, List.set_cons_succ, i64_w, i32_w]
                rfl
              refine pure_ (i := 1) (N := (some 16)) (v := ?_) (a' := ?_) #[true, true, false, false, false, false, false, false, false, false, false, false, false, false, false, false, false, false, false, false, false, false, false, false] rfl rfl (by kernel_rfl) (fun _ _ _ h => h) (Or.inl ⟨by rfl, ?_⟩) ?_ ?_
              rotate_left
              · intro w'
                go_simp
                with_reducible rfl
              rotate_left
              · simp only [Act.put, List.setIfInBounds_toArray, List.set_cons_zero, List.set_cons_succ, i64_w, i32_w]
                rfl
              refine pure_ (i := 2) (N := (some 17)) (v := ?_) (a' := ?_) #[true, true, true, false, false, false, false, false, false, false, false, false, false, false, false, false, false, false, false, false, false, false, false, false] rfl rfl (by kernel_rfl) (fun _ _ _ h => h) (Or.inl ⟨by rfl, ?_⟩) ?_ ?_
              rotate_left
              · intro w'
                go_simp
                with_reducible rfl
              rotate_left
              · simp only [Act.put, List.setIfInBounds_toArray, List.set_cons_zero, List.set_cons_succ, i64_w, i32_w]
                rfl
              refine take_ (i := 3) (N := (some 18)) (v := ?_) (a' := ?_) #[true, true, true, true, false, false, false, false, false, false, false, false, false, false, false, false, false, false, false, false, false, false, false, false] rfl rfl (by kernel_rfl) (fun _ _ _ h => h) (Or.inl ⟨by rfl, ?_⟩) hHeld ?_ ?_
              rotate_left
              · rintro w' sb
                have c0 := pw_cell_below sb a0
                have c1 := pw_cell_below sb a1
                have c2 := pw_cell_below sb a2
                have c3 := pw_cell_below sb a3
                have c4 := pw_cell_below sb a4
                have c5 := pw_cell_below sb a5
                have c6 := pw_cell_below sb a6
                have c7 := pw_cell_below sb a7
                have d4 := pw_cell_below sb q4
                clear sb
                go_simp
                with_reducible rfl
              rotate_left
              · simp only [Act.put, List.setIfInBounds_toArray, List.set_cons_zero, List.set_cons_succ, i64_w, i32_w]
                rfl
              refine one_ (i := 4) (N := (some 19)) #[true, true, true, true, true, false, false, false, false, false, false, false, false, false, false, false, false, false, false, false, false, false, false, false] rfl rfl (by kernel_rfl) (by decide) (fun K hK => ?_)
              refine goes_ Try.func24 (by kernel_rfl) rfl #[odV o] (by rfl) rfl rfl (by (try simp only [List.map_toArray, List.map_cons, List.map_nil]); first | done | rfl) ?_
              with_reducible refine (HF.out _).mono ?_
              rintro e w' ⟨rfl, hb⟩
              refine ⟨_, rfl, ?_⟩
              refine hK.out _ _ (below_step hHeld hb) (fun hHeld => ?_)
              clear hK K
              clear hb
              refine norm_ (a' := ?_) ?_ ?_
              rotate_left
              · show Act.put _ (some 19) _ = _
                simp only [Act.put, List.setIfInBounds_toArray, List.set_cons_zero, List.set_cons_succ, i64_w, i32_w]
                rfl
              refine pure_ (i := 5) (N := (some 20)) (v := ?_) (a' := ?_) #[true, true, true, true, true, true, false, false, false, false, false, false, false, false, false, false, false, false, false, false, false, false, false, false] rfl rfl (by kernel_rfl) (fun _ _ _ h => h) (Or.inl ⟨by rfl, ?_⟩) ?_ ?_
              rotate_left
              · intro w'
                go_simp
                with_reducible rfl
              rotate_left
              · simp only [Act.put, List.setIfInBounds_toArray, List.set_cons_zero, List.set_cons_succ, i64_w, i32_w]
                rfl
              refine pure_ (i := 6) (N := (some 21)) (v := ?_) (a' := ?_) #[true, true, true, true, true, true, true, false, false, false, false, false, false, false, false, false, false, false, false, false, false, false, false, false] rfl rfl (by kernel_rfl) (fun _ _ _ h => h) (Or.inl ⟨by rfl, ?_⟩) ?_ ?_
              rotate_left
              · intro w'
                go_simp
                with_reducible rfl
              rotate_left
              · simp only [Act.put, List.setIfInBounds_toArray, List.set_cons_zero, List.set_cons_succ, i64_w, i32_w]
                rfl
              refine pure_ (i := 7) (N := (some 22)) (v := ?_) (a' := ?_) #[true, true, true, true, true, true, true, true, false, false, false, false, false, false, false, false, false, false, false, false, false, false, false, false] rfl rfl (by kernel_rfl) (fun _ _ _ h => h) (Or.inl ⟨by rfl, ?_⟩) ?_ ?_
              rotate_left
              · intro w'
                go_simp
                with_reducible rfl
              rotate_left
              · simp only [Act.put, List.setIfInBounds_toArray, List.set_cons_zero, List.set_cons_succ, i64_w, i32_w]
                rfl
              refine pure_ (i := 8) (N := (some 23)) (v := ?_) (a' := ?_) #[true, true, true, true, true, true, true, true, true, false, false, false, false, false, false, false, false, false, false, false, false, false, false, false] rfl rfl (by kernel_rfl) (fun _ _ _ h => h) (Or.inl ⟨by rfl, ?_⟩) ?_ ?_
              rotate_left
              · intro w'
                go_simp
                with_reducible rfl
              rotate_left
              · simp only [Act.put, List.setIfInBounds_toArray, List.set_cons_zero, List.set_cons_succ, i64_w, i32_w]
                rfl
              refine pure_ (i := 9) (N := (some 24)) (v := ?_) (a' := ?_) #[true, true, true, true, true, true, true, true, true, true, false, false, false, false, false, false, false, false, false, false, false, false, false, false] rfl rfl (by kernel_rfl) (fun _ _ _ h => h) (Or.inl ⟨by rfl, ?_⟩) ?_ ?_
              rotate_left
              · intro w'
                go_simp
                with_reducible rfl
              rotate_left
              · simp only [Act.put, List.setIfInBounds_toArray, List.set_cons_zero, List.set_cons_succ, i64_w, i32_w]
                rfl
              refine pure_ (i := 10) (N := (some 25)) (v := ?_) (a' := ?_) #[true, true, true, true, true, true, true, true, true, true, true, false, false, false, false, false, false, false, false, false, false, false, false, false] rfl rfl (by kernel_rfl) (fun _ _ _ h => h) (Or.inl ⟨by rfl, ?_⟩) ?_ ?_
              rotate_left
              · intro w'
                go_simp
                with_reducible rfl
              rotate_left
              · simp only [Act.put, List.setIfInBounds_toArray, List.set_cons_zero, List.set_cons_succ, i64_w, i32_w]
                rfl
              refine pure_ (i := 11) (N := (some 26)) (v := ?_) (a' := ?_) #[true, true, true, true, true, true, true, true, true, true, true, true, false, false, false, false, false, false, false, false, false, false, false, false] rfl rfl (by kernel_rfl) (fun _ _ _ h => h) (Or.inl ⟨by rfl, ?_⟩) ?_ ?_
              rotate_left
              · intro w'
                go_simp
                with_reducible rfl
              rotate_left
              · simp only [Act.put, List.setIfInBounds_toArray, List.set_cons_zero, List.set_cons_succ, i64_w, i32_w]
                rfl
              refine pure_ (i := 12) (N := (some 27)) (v := ?_) (a' := ?_) #[true, true, true, true, true, true, true, true, true, true, true, true, true, false, false, false, false, false, false, false, false, false, false, false] rfl rfl (by kernel_rfl) (fun _ _ _ h => h) (Or.inl ⟨by rfl, ?_⟩) ?_ ?_
              rotate_left
              · intro w'
                go_simp
                with_reducible rfl
              rotate_left
              · simp only [Act.put, List.setIfInBounds_toArray, List.set_cons_zero, List.set_cons_succ, i64_w, i32_w]
                rfl
              refine pure_ (i := 13) (N := (some 28)) (v := ?_) (a' := ?_) #[true, true, true, true, true, true, true, true, true, true, true, true, true, true, false, false, false, false, false, false, false, false, false, false] rfl rfl (by kernel_rfl) (fun _ _ _ h => h) (Or.inl ⟨by rfl, ?_⟩) ?_ ?_
              rotate_left
              · intro w'
                go_simp
                with_reducible rfl
              rotate_left
              · simp only [Act.put, List.setIfInBounds_toArray, List.set_cons_zero, List.set_cons_succ, i64_w, i32_w]
                rfl
              refine pure_ (i := 14) (N := (some 29)) (v := ?_) (a' := ?_) #[true, true, true, true, true, true, true, true, true, true, true, true, true, true, true, false, false, false, false, false, false, false, false, false] rfl rfl (by kernel_rfl) (fun _ _ _ h => h) (Or.inl ⟨by rfl, ?_⟩) ?_ ?_
              rotate_left
              · intro w'
                go_simp
                with_reducible rfl
              rotate_left
              · simp only [Act.put, List.setIfInBounds_toArray, List.set_cons_zero, List.set_cons_succ, i64_w, i32_w]
                rfl
              refine take_ (i := 15) (N := (some 30)) (v := ?_) (a' := ?_) #[true, true, true, true, true, true, true, true, true, true, true, true, true, true, true, true, false, false, false, false, false, false, false, false] rfl rfl (by kernel_rfl) (fun _ _ _ h => h) (Or.inl ⟨by rfl, ?_⟩) hHeld ?_ ?_
              rotate_left
              · rintro w' sb
                have c0 := pw_cell_below sb a0
                have c1 := pw_cell_below sb a1
                have c2 := pw_cell_below sb a2
                have c3 := pw_cell_below sb a3
                have c4 := pw_cell_below sb a4
                have c5 := pw_cell_below sb a5
                have c6 := pw_cell_below sb a6
                have c7 := pw_cell_below sb a7
                have d4 := pw_cell_below sb q4
                clear sb
                go_simp
                with_reducible rfl
              rotate_left
              · simp only [Act.put, List.setIfInBounds_toArray, List.set_cons_zero, List.set_cons_succ, i64_w, i32_w]
                rfl
              refine pure_ (i := 16) (N := (some 31)) (v := ?_) (a' := ?_) #[true, true, true, true, true, true, true, true, true, true, true, true, true, true, true, true, true, false, false, false, false, false, false, false] rfl rfl (by kernel_rfl) (fun _ _ _ h => h) (Or.inl ⟨by rfl, ?_⟩) ?_ ?_
              rotate_left
              · intro w'
                go_simp
                with_reducible rfl
              rotate_left
              · simp only [Act.put, List.setIfInBounds_toArray, List.set_cons_zero, List.set_cons_succ, i64_w, i32_w]
                rfl
              refine pure_ (i := 17) (N := (some 32)) (v := ?_) (a' := ?_) #[true, true, true, true, true, true, true, true, true, true, true, true, true, true, true, true, true, true, false, false, false, false, false, false] rfl rfl (by kernel_rfl) (fun _ _ _ h => h) (Or.inl ⟨by rfl, ?_⟩) ?_ ?_
              rotate_left
              · intro w'
                go_simp
                with_reducible rfl
              rotate_left
              · simp only [Act.put, List.setIfInBounds_toArray, List.set_cons_zero, List.set_cons_succ, i64_w, i32_w]
                rfl
              refine pure_ (i := 18) (N := (some 33)) (v := ?_) (a' := ?_) #[true, true, true, true, true, true, true, true, true, true, true, true, true, true, true, true, true, true, true, false, false, false, false, false] rfl rfl (by kernel_rfl) (fun _ _ _ h => h) (Or.inl ⟨by rfl, ?_⟩) ?_ ?_
              rotate_left
              · intro w'
                go_simp
                with_reducible rfl
              rotate_left
              · simp only [Act.put, List.setIfInBounds_toArray, List.set_cons_zero, List.set_cons_succ, i64_w, i32_w]
                rfl
              refine pure_ (i := 19) (N := (some 34)) (v := ?_) (a' := ?_) #[true, true, true, true, true, true, true, true, true, true, true, true, true, true, true, true, true, true, true, true, false, false, false, false] rfl rfl (by kernel_rfl) (fun _ _ _ h => h) (Or.inl ⟨by rfl, ?_⟩) ?_ ?_
              rotate_left
              · intro w'
                go_simp
                with_reducible rfl
              rotate_left
              · simp only [Act.put, List.setIfInBounds_toArray, List.set_cons_zero, List.set_cons_succ, i64_w, i32_w]
                rfl
              refine take_ (i := 20) (N := (some 35)) (v := ?_) (a' := ?_) #[true, true, true, true, true, true, true, true, true, true, true, true, true, true, true, true, true, true, true, true, true, false, false, false] rfl rfl (by kernel_rfl) (fun _ _ _ h => h) (Or.inl ⟨by rfl, ?_⟩) hHeld ?_ ?_
              rotate_left
              · rintro w' sb
                have c0 := pw_cell_below sb a0
                have c1 := pw_cell_below sb a1
                have c2 := pw_cell_below sb a2
                have c3 := pw_cell_below sb a3
                have c4 := pw_cell_below sb a4
                have c5 := pw_cell_below sb a5
                have c6 := pw_cell_below sb a6
                have c7 := pw_cell_below sb a7
                have d4 := pw_cell_below sb q4
                clear sb
                go_simp
                with_reducible rfl
              rotate_left
              · simp only [Act.put, List.setIfInBounds_toArray, List.set_cons_zero, List.set_cons_succ, i64_w, i32_w]
                rfl
              refine pure_ (i := 21) (N := (some 36)) (v := ?_) (a' := ?_) #[true, true, true, true, true, true, true, true, true, true, true, true, true, true, true, true, true, true, true, true, true, true, false, false] rfl rfl (by kernel_rfl) (fun _ _ _ h => h) (Or.inl ⟨by rfl, ?_⟩) ?_ ?_
              rotate_left
              · intro w'
                go_simp
                with_reducible rfl
              rotate_left
              · simp only [Act.put, List.setIfInBounds_toArray, List.set_cons_zero, List.set_cons_succ, i64_w, i32_w]
                rfl
              refine pure_ (i := 22) (N := (some 37)) (v := ?_) (a' := ?_) #[true, true, true, true, true, true, true, true, true, true, true, true, true, true, true, true, true, true, true, true, true, true, true, false] rfl rfl (by kernel_rfl) (fun _ _ _ h => h) (Or.inl ⟨by rfl, ?_⟩) ?_ ?_
              rotate_left
              · intro w'
                go_simp
                with_reducible rfl
              rotate_left
              · simp only [Act.put, List.setIfInBounds_toArray, List.set_cons_zero, List.set_cons_succ, i64_w, i32_w]
                rfl
              refine pure_ (i := 23) (N := (some 38)) (v := ?_) (a' := ?_) #[true, true, true, true, true, true, true, true, true, true, true, true, true, true, true, true, true, true, true, true, true, true, true, true] rfl rfl (by kernel_rfl) (fun _ _ _ h => h) (Or.inl ⟨by rfl, ?_⟩) ?_ ?_
              rotate_left
              · intro w'
                go_simp
                with_reducible rfl
              rotate_left
              · simp only [Act.put, List.setIfInBounds_toArray, List.set_cons_zero, List.set_cons_succ, i64_w, i32_w]
                rfl
              refine done_ (by kernel_rfl) ?_
              clear z1 z2 z3 z4 z5 z6 q4
              go_wp2_with fail
              go_ret
              exact ⟨by rw [HV.out]; rfl, below_step HB.out hHeld⟩
      · obtain rfl : k = l0.length := by omega
        have HV := Lib.hid (show valid l0 = true from by unfold valid; rw [decide_eq_true hlen, ← List.take_length (l := l0)]; exact hI.1)
        have HB := Lib.hid hI.2
        clear hI
        go_wp2
        go_ret
        exact ⟨by rw [HV.out]; rfl, HB.out⟩
  · have HV := Lib.hid (show valid l0 = false from by unfold valid; rw [decide_eq_false hlen]; rfl)
    go_enter Try.func15, Try.ntmps15
    go_wp2
    go_ret
    exact ⟨by rw [HV.out]; rfl, Below.refl _ _⟩
theorem wageofficeref31_Valid.calls (A0 : Option Addr) (c0 : Nat) (l0 : List Od) (r : Bool) (w : World) (hr0 : Kd.C k24 w A0 l0.length l0) (hc0 : l0.length ≤ c0) (h : wageofficeref31_Valid.f l0 = some r) :
    Calls Try.prog 15 #[.slice A0 l0.length c0] w fun e w' => e = .returned (.bool r) ∧ Below w.heap.size w w' := by
  injection h with h
  subst h
  exact rvalid_any A0 c0 l0 w hr0 hc0
end Go.Proofs.Ytgbcihbnaecejaa.Q

namespace Go.Proofs.Ytgbcihbnaecejaa.Q
open Go.RowKit Go.Proofs.YtgbcihbnaecejaaW.PrintWords Go.Proofs.YtgbcihbnaecejaaW.PrintLast Go.Proofs.YtgbcihbnaecejaaW.PrintMore
attribute [local go_sem] max2_int min2_int max_two min_two max_three min_three max_four min_four   -- for this text's walks alone
set_option linter.unusedVariables false
set_option linter.unusedSimpArgs false
attribute [local go_sem high] eqA24
def wageofficeref31_Same.l0 : Nat → List (S24) → List (S24) → Int → Option (Bool)
  | 0, _, _, _ => none
  | k + 1, x0, x1, x5 => if x5 < (x0.length : Int) then (if 0 ≤ x5 then (if x5 < (x1.length : Int) then (if (!(((rd_T24 x0 x5).f0) == ((rd_T24 x1 x5).f0)) || (!((((rd_T24 x0 x5).f1).toList) == (((rd_T24 x1 x5).f1).toList)) || (!((((rd_T24 x0 x5).f2).toList) == (((rd_T24 x1 x5).f2).toList)) || (!(((rd_T24 x0 x5).f3) == ((rd_T24 x1 x5).f3)) || (!(((rd_T24 x0 x5).f4) == ((rd_T24 x1 x5).f4)) || (!(((rd_T24 x0 x5).f5) == ((rd_T24 x1 x5).f5)) || (!(((rd_T24 x0 x5).f6) == ((rd_T24 x1 x5).f6)) || (!(((rd_T24 x0 x5).f7) == ((rd_T24 x1 x5).f7)))))))))) = true then (some false) else (wageofficeref31_Same.l0 k x0 x1 (wrap64 (x5 + 1)))) else (none)) else (none)) else (some true)
def wageofficeref31_Same.f (k : Nat) (l0 : List (S24)) (l1 : List (S24)) : Option (Bool) := if (l0.length : Int) = (l1.length : Int) then (wageofficeref31_Same.l0 k l0 l1 0) else (some false)
theorem wageofficeref31_Same.mono_l : ∀ k, (∀ y0 y1 y2, LeO (wageofficeref31_Same.l0 k y0 y1 y2) (wageofficeref31_Same.l0 (k + 1) y0 y1 y2))
  | 0 => fun _ _ _ r h => by simp [wageofficeref31_Same.l0] at h
  | k + 1 => by
    have ih0 := wageofficeref31_Same.mono_l k
    · intro y0 y1 y2
      unfold wageofficeref31_Same.l0
      repeat' first
      | (with_reducible exact ih0 _ _ _)
      | (with_reducible exact LeO.refl _)
      | (with_reducible exact LeO.none _)
      | (with_reducible refine LeO.ite ?_ ?_)
      | (with_reducible refine LeO.bind ?_ (fun _ => ?_))
      | exact ih0 _ _ _
      | exact LeO.none _
      | refine LeO.ite ?_ ?_
      | refine LeO.bind ?_ (fun _ => ?_)
theorem wageofficeref31_Same.mono : ∀ a0 a1 k, LeO (wageofficeref31_Same.f k a0 a1) (wageofficeref31_Same.f (k + 1) a0 a1) := by
  intro a0 a1 k
  have ih0 := wageofficeref31_Same.mono_l k
  unfold wageofficeref31_Same.f
  repeat' first
      | (with_reducible exact ih0 _ _ _)
      | (with_reducible exact LeO.refl _)
      | (with_reducible exact LeO.none _)
      | (with_reducible refine LeO.ite ?_ ?_)
      | (with_reducible refine LeO.bind ?_ (fun _ => ?_))
      | exact ih0 _ _ _
      | exact LeO.none _
      | refine LeO.ite ?_ ?_
      | refine LeO.bind ?_ (fun _ => ?_)
set_option maxHeartbeats 8000000 in
set_option maxRecDepth 100000 in
theorem wageofficeref31_Same.calls (k : Nat) (A0 : Option Addr) (c0 : Nat) (l0 : List (S24)) (A1 : Option Addr) (c1 : Nat) (l1 : List (S24)) (r : Bool) (w : World) (hr0 : Kd.C k24 w A0 l0.length l0) (hc0 : l0.length ≤ c0) (hr1 : Kd.C k24 w A1 l1.length l1) (hc1 : l1.length ≤ c1) (h : wageofficeref31_Same.f k l0 l1 = some r) :
    Calls Try.prog 16 #[.slice A0 l0.length c0, .slice A1 l1.length c1] w fun e w' => e = .returned (.bool r) ∧ Drawn0 w w' := by
  have hu24 := Try.underlying24
  have HR0 := Aside0.mk hr0
  have HC0 := Aside0.mk hc0
  clear hr0 hc0
  have HR1 := Aside0.mk hr1
  have HC1 := Aside0.mk hc1
  clear hr1 hc1
  have H : (if (l0.length : Int) = (l1.length : Int) then (wageofficeref31_Same.l0 k l0 l1 0) else (some false)) = some r := h
  clear h
  by_cases c3 : (l0.length : Int) = (l1.length : Int)
  · rw [if_pos c3] at H
    have c3b0 : ((l0.length : Int) == (l1.length : Int)) = true := beq_iff_eq.mpr c3
    have c3b1 : ((l0.length : Int) != (l1.length : Int)) = false := bne_eq_false_iff_eq.mpr c3
    have c3b2 : (l0.length == l1.length) = true := by first | simpa using c3 | (simp at c3 ⊢; omega)
    clear c3
    have H' := Aside0.mk H
    clear H
    go_enter Try.func16, Try.ntmps16
    go_wp2
    repeat (go_quiet (fail); try go_wp2)
    go_loopg [5] k (fun kq v5 w' => ∃ (x5_1 : Int), v5 = .int .i64 x5_1 ∧ Aside0 (wageofficeref31_Same.l0 kq l0 l1 x5_1 = some r) ∧ Aside0 (kq ≤ k) ∧ Drawn0 w w')
    case atStart => exact ⟨(0), (by first | rfl | (simp; done) | (simp [*]; done)), H', ⟨Nat.le_refl _⟩, by repeat (first | exact Drawn0.refl _ | apply Drawn0.step)⟩
    case round =>
      clear H'
      try clear c1
      try clear p2
      try clear c3
      try clear c3b0
      try clear c3b1
      try clear c3b2
      obtain ⟨x5_1, rfl, HA, HK1, ⟨m1, rfl⟩⟩ := hrel
      cases gk with
      | zero => exact absurd HA.out (by simp [wageofficeref31_Same.l0])
      | succ k1 =>
        have H := HA.out
        clear HA
        simp only [wageofficeref31_Same.l0] at H
        by_cases c4 : x5_1 < (l0.length : Int)
        · rw [if_pos c4] at H
          have c4b0 : decide (x5_1 < (l0.length : Int)) = true := decide_eq_true c4
          clear c4
          by_cases c5 : 0 ≤ x5_1
          · rw [if_pos c5] at H
            have c5b0 : decide (0 ≤ x5_1) = true := decide_eq_true c5
            clear c5
            by_cases c6 : x5_1 < (l1.length : Int)
            · rw [if_pos c6] at H
              have c6b0 : decide (x5_1 < (l1.length : Int)) = true := decide_eq_true c6
              clear c6
              by_cases c7 : (!(((rd_T24 l0 x5_1).f0) == ((rd_T24 l1 x5_1).f0)) || (!((((rd_T24 l0 x5_1).f1).toList) == (((rd_T24 l1 x5_1).f1).toList)) || (!((((rd_T24 l0 x5_1).f2).toList) == (((rd_T24 l1 x5_1).f2).toList)) || (!(((rd_T24 l0 x5_1).f3) == ((rd_T24 l1 x5_1).f3)) || (!(((rd_T24 l0 x5_1).f4) == ((rd_T24 l1 x5_1).f4)) || (!(((rd_T24 l0 x5_1).f5) == ((rd_T24 l1 x5_1).f5)) || (!(((rd_T24 l0 x5_1).f6) == ((rd_T24 l1 x5_1).f6)) || (!(((rd_T24 l0 x5_1).f7) == ((rd_T24 l1 x5_1).f7)))))))))) = true
              · rw [if_pos c7] at H
                have c7b0 : (!(((rd_T24 l0 x5_1).f0) == ((rd_T24 l1 x5_1).f0)) || (!((((rd_T24 l0 x5_1).f1).toList) == (((rd_T24 l1 x5_1).f1).toList)) || (!((((rd_T24 l0 x5_1).f2).toList) == (((rd_T24 l1 x5_1).f2).toList)) || (!(((rd_T24 l0 x5_1).f3) == ((rd_T24 l1 x5_1).f3)) || (!(((rd_T24 l0 x5_1).f4) == ((rd_T24 l1 x5_1).f4)) || (!(((rd_T24 l0 x5_1).f5) == ((rd_T24 l1 x5_1).f5)) || (!(((rd_T24 l0 x5_1).f6) == ((rd_T24 l1 x5_1).f6)) || (!(((rd_T24 l0 x5_1).f7) == ((rd_T24 l1 x5_1).f7)))))))))) = true := c7
                clear c7
                obtain rfl := Option.some.inj H
                have p135 : 0 ≤ (x5_1 : Int) := of_decide_eq_true (by first | (with_reducible assumption) | assumption)
                have q135 : x5_1 < (l0.length : Int) := of_decide_eq_true (by first | (with_reducible assumption) | assumption)
                obtain ⟨ad135, e135, hx135_0, hx135_1, hx135_2, hx135_3, hx135_4, hx135_5, hx135_6, hx135_7⟩ := at_T24 HR0.out x5_1 p135 q135
                cases e135
                replace p135 := eq_true p135
                replace q135 := eq_true q135
                have p136 : 0 ≤ (x5_1 : Int) := of_decide_eq_true (by first | (with_reducible assumption) | assumption)
                have q136 : x5_1 < (l1.length : Int) := of_decide_eq_true (by first | (with_reducible assumption) | assumption)
                obtain ⟨ad136, e136, hx136_0, hx136_1, hx136_2, hx136_3, hx136_4, hx136_5, hx136_6, hx136_7⟩ := at_T24 HR1.out x5_1 p136 q136
                cases e136
                replace p136 := eq_true p136
                replace q136 := eq_true q136
                go_wp2
                repeat (go_quiet (fail); try go_wp2)
                go_ret
                exact ⟨by first | rfl | (simp; done) | (simp [*]; done), by repeat (first | exact Drawn0.refl _ | apply Drawn0.step)⟩
              · rw [if_neg c7] at H
                have c7b0 : (!(((rd_T24 l0 x5_1).f0) == ((rd_T24 l1 x5_1).f0)) || (!((((rd_T24 l0 x5_1).f1).toList) == (((rd_T24 l1 x5_1).f1).toList)) || (!((((rd_T24 l0 x5_1).f2).toList) == (((rd_T24 l1 x5_1).f2).toList)) || (!(((rd_T24 l0 x5_1).f3) == ((rd_T24 l1 x5_1).f3)) || (!(((rd_T24 l0 x5_1).f4) == ((rd_T24 l1 x5_1).f4)) || (!(((rd_T24 l0 x5_1).f5) == ((rd_T24 l1 x5_1).f5)) || (!(((rd_T24 l0 x5_1).f6) == ((rd_T24 l1 x5_1).f6)) || (!(((rd_T24 l0 x5_1).f7) == ((rd_T24 l1 x5_1).f7)))))))))) = false := by simpa using c7
                clear c7
                have H' := Aside0.mk H
                clear H
                have p135 : 0 ≤ (x5_1 : Int) := of_decide_eq_true (by first | (with_reducible assumption) | assumption)
                have q135 : x5_1 < (l0.length : Int) := of_decide_eq_true (by first | (with_reducible assumption) | assumption)
                obtain ⟨ad135, e135, hx135_0, hx135_1, hx135_2, hx135_3, hx135_4, hx135_5, hx135_6, hx135_7⟩ := at_T24 HR0.out x5_1 p135 q135
                cases e135
                replace p135 := eq_true p135
                replace q135 := eq_true q135
                have p136 : 0 ≤ (x5_1 : Int) := of_decide_eq_true (by first | (with_reducible assumption) | assumption)
                have q136 : x5_1 < (l1.length : Int) := of_decide_eq_true (by first | (with_reducible assumption) | assumption)
                obtain ⟨ad136, e136, hx136_0, hx136_1, hx136_2, hx136_3, hx136_4, hx136_5, hx136_6, hx136_7⟩ := at_T24 HR1.out x5_1 p136 q136
                cases e136
                replace p136 := eq_true p136
                replace q136 := eq_true q136
                go_wp2
                repeat (go_quiet (fail); try go_wp2)
                go_roundg k1
                case measure => have := HK1.out; omega
                case rel => exact ⟨(wrap64 (x5_1 + 1)), (by first | rfl | (simp; done) | (simp [*]; done)), H', ⟨by have := HK1.out; omega⟩, by repeat (first | exact Drawn0.refl _ | apply Drawn0.step)⟩
            · rw [if_neg c6] at H
              exact absurd H (by simp)
          · rw [if_neg c5] at H
            exact absurd H (by simp)
        · rw [if_neg c4] at H
          have c4b0 : decide (x5_1 < (l0.length : Int)) = false := decide_eq_false c4
          clear c4
          obtain rfl := Option.some.inj H
          go_wp2
          repeat (go_quiet (fail); try go_wp2)
          go_ret
          exact ⟨by first | rfl | (simp; done) | (simp [*]; done), by repeat (first | exact Drawn0.refl _ | apply Drawn0.step)⟩
  · rw [if_neg c3] at H
    have c3b0 : ((l0.length : Int) == (l1.length : Int)) = false := beq_eq_false_iff_ne.mpr c3
    have c3b1 : ((l0.length : Int) != (l1.length : Int)) = true := bne_iff_ne.mpr c3
    have c3b2 : (l0.length == l1.length) = false := by first | simpa using c3 | (simp at c3 ⊢; omega)
    obtain rfl := Option.some.inj H
    go_enter Try.func16, Try.ntmps16
    go_wp2
    repeat (go_quiet (fail); try go_wp2)
    go_ret
    exact ⟨by first | rfl | (simp; done) | (simp [*]; done), by repeat (first | exact Drawn0.refl _ | apply Drawn0.step)⟩
end Go.Proofs.Ytgbcihbnaecejaa.Q

namespace Go.Proofs.YtgbcihbnaecejaaW.PrintLast
open Go Go.RowKit Go.Proofs.YtgbcihbnaecejaaW.PrintWords
structure KB (S : Nat → Prop) (W W' : World) : Prop where
  os : W'.os = W.os
  tape : W'.tape = W.tape
  output : W'.output = W.output
  size : W.heap.size ≤ W'.heap.size
  block : ∀ k, k < W.heap.size → ¬ S k → W'.heap[k]? = W.heap[k]?
def NoB (_ : Nat) : Prop := False
theorem KB.refl (S : Nat → Prop) (W : World) : KB S W W := ⟨rfl, rfl, rfl, Nat.le_refl _, fun _ _ _ => rfl⟩
theorem KB.trans {S : Nat → Prop} {A B C : World} (h : KB S A B) (k : KB S B C) : KB S A C :=
  ⟨k.os.trans h.os, k.tape.trans h.tape, k.output.trans h.output, Nat.le_trans h.size k.size, fun i hi hs => (k.block i (Nat.lt_of_lt_of_le hi h.size) hs).trans (h.block i hi hs)⟩
theorem KB.trans' {S T : Nat → Prop} {A B C : World} (h : KB S A B) (k : KB T B C) (hT : ∀ i, T i → i < A.heap.size → S i) : KB S A C :=
  ⟨k.os.trans h.os, k.tape.trans h.tape, k.output.trans h.output, Nat.le_trans h.size k.size, fun i hi hs => (k.block i (Nat.lt_of_lt_of_le hi h.size) (fun ht => hs (hT i ht hi))).trans (h.block i hi hs)⟩
theorem KB.mono {S T : Nat → Prop} {A B : World} (h : KB S A B) (hT : ∀ i, S i → i < A.heap.size → T i) : KB T A B :=
  ⟨h.os, h.tape, h.output, h.size, fun i hi hs => h.block i hi (fun hss => hs (hT i hss hi))⟩
theorem KB.alloc {S : Nat → Prop} {A B : World} (h : KB S A B) (o : Obj) : KB S A (B.alloc o) :=
  h.trans ⟨rfl, rfl, rfl, by simp, fun k hk _ => Below.heap_alloc _ _ _ hk⟩
theorem KB.setCell {S : Nat → Prop} {A B : World} (h : KB S A B) {p : Addr} (hp : S p.block ∨ A.heap.size ≤ p.block) (u : Value) : KB S A (B.setCell p u) :=
  ⟨h.os, h.tape, h.output, by have := h.size; simpa [World.setCell] using this, fun k hk hs => (Below.heap_setCell _ _ _ _ (fun e => by subst e; rcases hp with hp | hp; exact hs hp; omega)).trans (h.block k hk hs)⟩
theorem KB.drew {S : Nat → Prop} {A B : World} (h : KB S A B) : KB S A B.drew := ⟨h.os, h.tape, h.output, h.size, h.block⟩
theorem KB.drewN {S : Nat → Prop} {A B : World} (h : KB S A B) (n : Nat) : KB S A (B.drewN n) := ⟨h.os, h.tape, h.output, h.size, h.block⟩
theorem KB.of_below {w w' : World} (h : Below w.heap.size w w') : KB NoB w w' := ⟨h.os, h.tape, h.output, h.size, fun k hk _ => h.block k hk⟩
theorem KB.below {S : Nat → Prop} {w w' : World} {B : Nat} (h : KB S w w') (hB : B ≤ w.heap.size) (hS : ∀ k, S k → B ≤ k) : Below B w w' := ⟨h.os, h.tape, h.output, h.size, fun k hk => h.block k (by omega) (fun hs => by have := hS k hs; omega)⟩
theorem KB.get {S : Nat → Prop} {W W' : World} (h : KB S W W') {B : Nat} (hB : ¬ S B) {o : Obj} (hv : W.heap[B]? = some o) : W'.heap[B]? = some o := (h.block B (Array.getElem?_eq_some_iff.1 hv).1 hB).trans hv
theorem KB.cell {S : Nat → Prop} {W W' : World} (h : KB S W W') {a : Addr} (hB : ¬ S a.block) {v : Value} (hv : W.cell? a = some v) : W'.cell? a = some v :=
  (World.cell?_of_block (w := W) (h.block _ (World.block_lt_of_cell? W a hv) hB)).trans hv
def ElemB (e : TypeId) (W : World) (k : Nat) : Prop := ∃ cs fz, W.heap[k]? = some (.cells cs e fz)
def MineE (Mine : Nat → Prop) (L : Nat) (e : TypeId) (W : World) (k : Nat) : Prop := Mine k ∨ (L ≤ k ∧ ElemB e W k)
theorem own_KB {S : Nat → Prop} {W W' : World} {base : Nat} {e : TypeId} {size n : Nat} {v : Value} {xs : List Value} (h : W.ownsRow base e size v n xs) (hk : KB S W W') (hS : ∀ k, S k → k < base) : W'.ownsRow base e size v n xs := by
  refine own_move h fun k hv => ?_
  rcases h.2 with ⟨rfl, _⟩ | ⟨g, cap, cur, rfl, hg, hh, r⟩
  · simp [Value.ownBlock] at hv
  · have e1 : g = k := by simpa [Value.ownBlock] using hv
    subst e1
    exact hk.block g (Array.getElem?_eq_some_iff.1 hh).1 (fun hs => by have := hS g hs; omega)
theorem KB.of_append {W w1 : World} {base : Nat} {e : TypeId} {size n : Nat} {v : Value} {xs : List Value} {tmp : Obj} {Mine : Nat → Prop} {L : Nat} (h : W.ownsRow base e size v n xs) (hL : L ≤ base) (hg : (W.alloc tmp).grownBy w1 v.ownBlock) : KB (MineE Mine L e W) W w1 := by
  have h1 : KB (MineE Mine L e W) (W.alloc tmp) w1 := ⟨hg.os, hg.tape, hg.output, hg.size, fun k hk hs => hg.block k hk (fun ek => by
    rcases h.2 with ⟨rfl, _⟩ | ⟨g, cap, cur, rfl, hb, hh, r⟩
    · simp [Value.ownBlock] at ek
    · have e1 : k = g := by simpa [Value.ownBlock] using ek
      subst e1
      exact hs (.inr ⟨by omega, _, _, hh⟩))⟩
  exact ((KB.refl _ _).alloc tmp).trans h1
section
variable {P : Program} {ops : Array Oper} {Q : Exit → Act → World → Prop} {S : World → Prop} {md : Region.Mode}
end
end Go.Proofs.YtgbcihbnaecejaaW.PrintLast

namespace Go.Proofs.Ytgbcihbnaecejaa.Q
open Go Go.RowKit Go.Maps Go.Proofs.YtgbcihbnaecejaaW.PrintLast
set_option linter.unusedVariables false
def vread (v : Value) : Option (DataW Value × List MemPlace) := some (.held v, [])
theorem vread_eq {v x : Value} {ps : List MemPlace} (h : vread v = some (.held x, ps)) : v = x := by
  unfold vread at h
  injection h with h
  injection h with h _
  injection h
def Lk (D : DataW Value) (f : Lit → Option Value) : Prop :=
  ∀ kl, WideAt.IsKeyLit kl → Maps.has D kl = (f kl).isSome ∧ ∀ v, f kl = some v → ∀ z, D.atKey kl z = .held v
def MapV (P : Program) (k : TypeId) (w : World) (b n : Nat) (f : Lit → Option Value) : Prop :=
  ∃ D : DataW Value, w.ownsMap P k vread b n D ∧ Lk D f
variable {P : Program} {k : TypeId} {w : World} {b n : Nat} {f : Lit → Option Value}
theorem MapV.made (P : Program) (k : TypeId) (w : World) : MapV P k (w.alloc (.map #[] 0)) w.heap.size 0 (fun _ => none) :=
  ⟨.map [], World.ownsMap_made w _ _ _, fun _ _ => ⟨rfl, fun _ h => by cases h⟩⟩
theorem MapV.kb {S : Nat → Prop} {w' : World} (h : MapV P k w b n f) (hk : KB S w w') (hb : ¬ S b) : MapV P k w' b n f := by
  obtain ⟨D, ⟨es, clock, h1, h2, h3, h4⟩, h5⟩ := h
  exact ⟨D, ⟨es, clock, hk.get hb h1, h2, h3, h4⟩, h5⟩
theorem MapV.mono (h : MapV P k w b n f) {m : Nat} (hm : n ≤ m) : MapV P k w b m f := by
  obtain ⟨D, h1, h2⟩ := h
  exact ⟨D, h1.mono hm, h2⟩
theorem MapV.congr (h : MapV P k w b n f) {g : Lit → Option Value} (hg : ∀ kl, WideAt.IsKeyLit kl → f kl = g kl) : MapV P k w b n g := by
  obtain ⟨D, h1, h2⟩ := h
  exact ⟨D, h1, fun kl hk => by rw [← hg kl hk]; exact h2 kl hk⟩
theorem MapV.lt (h : MapV P k w b n f) : b < w.heap.size := by
  obtain ⟨D, h1, h2⟩ := h
  exact h1.lt
theorem MapV.look {t e : TypeId} (h : MapV P k w b n f) (K : Keyed P k) (ht : P.underlying t = some (.map k e)) {z : Value} (hz : (zeroValue e).run P w = .ok z w) {key : Value} {kl : Lit} (hkey : keyOf P k key = some kl) :
    (Instr.lookup t (.map (some b)) key false).run P w = .ok ((f kl).getD z) w := by
  obtain ⟨D, ho, hl⟩ := h
  obtain ⟨v, ps, hrun, hv⟩ := ho.lookup K ht hz (zd := .held z) (zp := []) rfl hkey
  obtain ⟨h1, h2⟩ := hl kl (K.key hkey)
  cases hf : f kl with
  | some x => rw [h2 x hf] at hv; rw [vread_eq hv] at hrun; exact hrun
  | none =>
    rw [hf] at h1
    rw [Maps.atKey_of_not_has h1] at hv
    rw [vread_eq hv] at hrun
    exact hrun
theorem MapV.look_ok {t e : TypeId} (h : MapV P k w b n f) (K : Keyed P k) (ht : P.underlying t = some (.map k e)) {z : Value} (hz : (zeroValue e).run P w = .ok z w) {key : Value} {kl : Lit} (hkey : keyOf P k key = some kl) :
    (Instr.lookup t (.map (some b)) key true).run P w = .ok (.tuple #[(f kl).getD z, .bool (f kl).isSome]) w := by
  obtain ⟨D, ho, hl⟩ := h
  obtain ⟨v, ps, hrun, hv⟩ := ho.look_ok K ht hz (zd := .held z) (zp := []) rfl hkey
  obtain ⟨h1, h2⟩ := hl kl (K.key hkey)
  rw [h1] at hrun
  cases hf : f kl with
  | some x => rw [h2 x hf] at hv; rw [vread_eq hv, hf] at hrun; exact hrun
  | none =>
    rw [hf] at h1 hrun
    rw [Maps.atKey_of_not_has h1] at hv
    rw [vread_eq hv] at hrun
    exact hrun
noncomputable def putL (f : Lit → Option Value) (kl : Lit) (v : Value) : Lit → Option Value := fun x => @ite _ (x = kl) (Classical.propDecidable _) (some v) (f x)
theorem MapV.store {t e : TypeId} (h : MapV P k w b n f) (K : Keyed P k) (ht : P.underlying t = some (.map k e)) (hn : n < maxLen) {key : Value} {kl : Lit} (hkey : keyOf P k key = some kl) (val : Value) :
    ∃ w', (Instr.mapUpdate t (.map (some b)) key val).run P w = .ok () w' ∧ MapV P k w' b (n + 1) (putL f kl val) ∧ KB (fun i => i = b) w w' := by
  obtain ⟨D, ho, hl⟩ := h
  obtain ⟨w', hrun, ho', hg⟩ := ho.update K ht hn hkey (d := .held val) (ps := []) rfl
  refine ⟨w', hrun, ⟨_, ho', fun kl' hk' => ?_⟩, ⟨hg.os, hg.tape, hg.output, hg.size, fun i hi hb => hg.block i hi (fun e => hb (by cases e; rfl))⟩⟩
  unfold putL
  by_cases e : kl' = kl
  · subst e
    rw [if_pos rfl]
    refine ⟨by rw [Maps.has_put_same ho.isMap hk']; rfl, fun v hv z => ?_⟩
    injection hv with hv
    rw [Maps.atKey_put_same ho.isMap hk', hv]
  · rw [if_neg e]
    obtain ⟨h1, h2⟩ := hl kl' hk'
    exact ⟨by rw [Maps.has_put_other e, h1], fun v hv z => by rw [Maps.atKey_put_other e, h2 v hv]⟩
def RangeV (P : Program) (k : TypeId) (w : World) (b r n : Nat) (f : Lit → Option Value) (left : Lit → Bool) (cnt : Nat) : Prop :=
  ∃ D : DataW Value, w.ranges P k vread b r n D left cnt ∧ Lk D f
theorem MapV.range {t e : TypeId} (h : MapV P k w b n f) (K : Keyed P k) (ht : P.underlying t = some (.map k e)) :
    ∃ w' left cnt, (Instr.range t (.map (some b))).run P w = .ok (.pointer (some ⟨w.heap.size, 0, none⟩)) w' ∧ RangeV P k w' b w.heap.size n f left cnt ∧ cnt ≤ n ∧ (∀ kl, WideAt.IsKeyLit kl → left kl = (f kl).isSome) ∧ KB NoB w w' ∧ w'.heap.size = w.heap.size + 1 := by
  obtain ⟨D, ho, hl⟩ := h
  obtain ⟨w', hrun, hr, hg, hs⟩ := ho.range K ht
  exact ⟨w', _, _, hrun, ⟨D, hr, hl⟩, ho.size_le, fun kl hk => (hl kl hk).1, ⟨hg.os, hg.tape, hg.output, hg.size, fun i hi _ => hg.block i hi (by simp)⟩, hs⟩
theorem RangeV.next {r cnt : Nat} {left : Lit → Bool} (h : RangeV P k w b r n f left cnt) (K : Keyed P k) (ty : TypeId) :
    (cnt = 0 ∧ (∀ kl, left kl = false) ∧ (Instr.next (.pointer (some ⟨r, 0, none⟩)) false ty).run P w = .ok (.tuple #[.bool false]) w) ∨
    ∃ key v kl w' cnt', keyOf P k key = some kl ∧ left kl = true ∧ f kl = some v ∧ (Instr.next (.pointer (some ⟨r, 0, none⟩)) false ty).run P w = .ok (.tuple #[.bool true, key, v]) w' ∧
      RangeV P k w' b r n f (fun x => left x && !x.sameKey kl) cnt' ∧ cnt' < cnt ∧ KB (fun i => i = r) w w' ∧ w'.heap.size = w.heap.size ∧ (Instr.entry (.pointer (some ⟨r, 0, none⟩))).run P w' = .ok (.tuple #[key, v]) w' := by
  obtain ⟨D, hr, hl⟩ := h
  have hown := hr.owns
  rcases hr.next K ty with h0 | ⟨key, v, kl, y, w', cnt', h1, h2, h3, h4, h5, h6, h7, h8, h9, h10⟩
  · exact .inl h0
  · right
    have hk := K.key h1
    obtain ⟨l1, l2⟩ := hl kl hk
    refine ⟨key, v, kl, w', cnt', h1, h2, ?_, h5, ⟨D, h6, hl⟩, h7, ⟨h8.os, h8.tape, h8.output, h8.size, fun i hi hb => h8.block i hi (fun e => hb (by cases e; rfl))⟩, h9, h10⟩
    unfold vread at h3
    injection h3 with h3
    have hat := h4
    rw [← h3] at hat
    cases hf : f kl with
    | none =>
      rw [hf] at l1
      have := Maps.atKey_of_not_has l1 (.lit (.bool true))
      rw [hat] at this
      cases this
    | some x =>
      have := l2 x hf (.lit (.bool true))
      rw [hat] at this
      injection this with this
      rw [this]
theorem RangeV.kb {S : Nat → Prop} {r cnt : Nat} {left : Lit → Bool} {w' : World} (h : RangeV P k w b r n f left cnt) (hk : KB S w w') (hb : ¬ S b) (hr : ¬ S r) : RangeV P k w' b r n f left cnt := by
  obtain ⟨D, ⟨es, clock, since, seen, c0, h1, h2, h3, h4, h5, h6⟩, hl⟩ := h
  exact ⟨D, ⟨es, clock, since, seen, c0, hk.get hb h1, h2, h3, h4, hk.get hr h5, h6⟩, hl⟩
theorem RangeV.map {r cnt : Nat} {left : Lit → Bool} (h : RangeV P k w b r n f left cnt) : MapV P k w b n f := by
  obtain ⟨D, hr, hl⟩ := h
  exact ⟨D, hr.owns, hl⟩
theorem RangeV.left_eq {r cnt : Nat} {left : Lit → Bool} (h : RangeV P k w b r n f left cnt) : w.rangeLeft b r = cnt := by
  obtain ⟨D, hr, hl⟩ := h
  exact hr.left_eq
end Go.Proofs.Ytgbcihbnaecejaa.Q

namespace Go.Proofs.Ytgbcihbnaecejaa.Q
open Go Go.RowKit Go.Maps Go.Proofs.YtgbcihbnaecejaaW.PrintLast
set_option linter.unusedVariables false
structure KeyB (P : Program) (k : TypeId) {κ : Type} (ok : κ → Prop) (enc : κ → Value) (lit : κ → Lit) : Prop where
  K : Keyed P k
  key : ∀ x, ok x → keyOf P k (enc x) = some (lit x)
  inj : ∀ x y, ok x → ok y → lit x = lit y → x = y
  inv : ∀ v kl, keyOf P k v = some kl → ∃ x, ok x ∧ v = enc x ∧ kl = lit x
theorem KeyB.int {P : Program} {k : TypeId} {q : IntKind} (hk : P.underlying k = some (.int q)) : KeyB P k (fun x : Int => (Lit.int q x).wf = true) (fun x => .int q x) (fun x => .int q x) where
  K := int_keyed hk
  key _ h := keyOf_int_mk hk h
  inj _ _ _ _ h := by injection h
  inv v kl h := by
    obtain ⟨x, h1, h2, h3⟩ := Maps.keyOf_int_inv hk h
    exact ⟨x, h3, h1, h2⟩
theorem KeyB.string {P : Program} {k : TypeId} (hk : P.underlying k = some .string) : KeyB P k (fun x : ByteArray => x.size ≤ maxLen) (fun x => .string x) (fun x => .string x.data.toList) where
  K := string_keyed hk
  key _ h := Go.WideMaps.keyOf_string_mk hk h
  inj x y _ _ h := by
    injection h with h
    cases x
    cases y
    congr
    exact Array.toList_inj.1 h
  inv v kl h := by
    obtain ⟨x, h1, h2, h3⟩ := Go.WideMaps.string_of_keyOf hk h
    exact ⟨x, h3, h1, h2⟩
section
variable {P : Program} {k : TypeId} {κ : Type} {ok : κ → Prop} {enc : κ → Value} {lit : κ → Lit} {w : World} {b n : Nat} {g : κ → Option Value}
def MapT (P : Program) (k : TypeId) (ok : κ → Prop) (lit : κ → Lit) (w : World) (b n : Nat) (g : κ → Option Value) : Prop := ∃ f, MapV P k w b n f ∧ ∀ x, ok x → f (lit x) = g x
theorem MapT.made (P : Program) (k : TypeId) (ok : κ → Prop) (lit : κ → Lit) (w : World) : MapT P k ok lit (w.alloc (.map #[] 0)) w.heap.size 0 (fun _ => none) := ⟨_, MapV.made P k w, fun _ _ => rfl⟩
theorem MapT.kb {S : Nat → Prop} {w' : World} (h : MapT P k ok lit w b n g) (hk : KB S w w') (hb : ¬ S b) : MapT P k ok lit w' b n g := by
  obtain ⟨f, h1, h2⟩ := h
  exact ⟨f, h1.kb hk hb, h2⟩
theorem MapT.below {B : Nat} {w' : World} (h : MapT P k ok lit w b n g) (hk : Below B w w') (hb : b < B) : MapT P k ok lit w' b n g := by
  obtain ⟨f, ⟨D, ⟨es, clock, h1, h2, h3, h4⟩, h5⟩, h6⟩ := h
  exact ⟨f, ⟨D, ⟨es, clock, (hk.block b hb).trans h1, h2, h3, h4⟩, h5⟩, h6⟩
theorem MapT.mono (h : MapT P k ok lit w b n g) {m : Nat} (hm : n ≤ m) : MapT P k ok lit w b m g := by
  obtain ⟨f, h1, h2⟩ := h
  exact ⟨f, h1.mono hm, h2⟩
theorem MapT.congr (h : MapT P k ok lit w b n g) {g' : κ → Option Value} (hg : ∀ x, ok x → g x = g' x) : MapT P k ok lit w b n g' := by
  obtain ⟨f, h1, h2⟩ := h
  exact ⟨f, h1, fun x hx => (h2 x hx).trans (hg x hx)⟩
theorem MapT.lt (h : MapT P k ok lit w b n g) : b < w.heap.size := by
  obtain ⟨f, h1, h2⟩ := h
  exact h1.lt
theorem MapT.alloc (h : MapT P k ok lit w b n g) (o : Obj) : MapT P k ok lit (w.alloc o) b n g := h.kb (S := NoB) ((KB.refl _ _).alloc o) (fun h => h)
theorem MapT.drew (h : MapT P k ok lit w b n g) : MapT P k ok lit w.drew b n g := h.kb (S := NoB) ((KB.refl _ _).drew) (fun h => h)
theorem MapT.drewN (h : MapT P k ok lit w b n g) (m : Nat) : MapT P k ok lit (w.drewN m) b n g := h.kb (S := NoB) ((KB.refl _ _).drewN m) (fun h => h)
theorem MapT.look (B : KeyB P k ok enc lit) {t e : TypeId} (h : MapT P k ok lit w b n g) (ht : P.underlying t = some (.map k e)) {z : Value} (hz : (zeroValue e).run P w = .ok z w) {x : κ} (hx : ok x) :
    (Instr.lookup t (.map (some b)) (enc x) false).run P w = .ok ((g x).getD z) w := by
  obtain ⟨f, h1, h2⟩ := h
  rw [← h2 x hx]
  exact h1.look B.K ht hz (B.key x hx)
theorem MapT.look_ok (B : KeyB P k ok enc lit) {t e : TypeId} (h : MapT P k ok lit w b n g) (ht : P.underlying t = some (.map k e)) {z : Value} (hz : (zeroValue e).run P w = .ok z w) {x : κ} (hx : ok x) :
    (Instr.lookup t (.map (some b)) (enc x) true).run P w = .ok (.tuple #[(g x).getD z, .bool (g x).isSome]) w := by
  obtain ⟨f, h1, h2⟩ := h
  rw [← h2 x hx]
  exact h1.look_ok B.K ht hz (B.key x hx)
noncomputable def putT (g : κ → Option Value) (x : κ) (v : Value) : κ → Option Value := fun y => @ite _ (y = x) (Classical.propDecidable _) (some v) (g y)
theorem putT_same (g : κ → Option Value) (x : κ) (v : Value) : putT g x v x = some v := if_pos rfl
theorem putT_ne (g : κ → Option Value) {x y : κ} (v : Value) (h : y ≠ x) : putT g x v y = g y := if_neg h
theorem MapT.store (B : KeyB P k ok enc lit) {t e : TypeId} (h : MapT P k ok lit w b n g) (ht : P.underlying t = some (.map k e)) (hn : n < maxLen) {x : κ} (hx : ok x) (val : Value) :
    ∃ w', (Instr.mapUpdate t (.map (some b)) (enc x) val).run P w = .ok () w' ∧ MapT P k ok lit w' b (n + 1) (putT g x val) ∧ KB (fun i => i = b) w w' := by
  obtain ⟨f, h1, h2⟩ := h
  obtain ⟨w', a1, a2, a3⟩ := h1.store B.K ht hn (B.key x hx) val
  refine ⟨w', a1, ⟨_, a2, fun y hy => ?_⟩, a3⟩
  unfold putL putT
  by_cases e : y = x
  · subst e
    rw [if_pos rfl, if_pos rfl]
  · rw [if_neg e, if_neg (fun hl => e (B.inj y x hy hx hl)), h2 y hy]
def RangeT (P : Program) (k : TypeId) (ok : κ → Prop) (lit : κ → Lit) (w : World) (b r n : Nat) (g : κ → Option Value) (seen : List κ) (cnt : Nat) : Prop :=
  ∃ f left, RangeV P k w b r n f left cnt ∧ (∀ x, ok x → f (lit x) = g x) ∧ (∀ x, ok x → (left (lit x) = true ↔ (g x).isSome = true ∧ x ∉ seen)) ∧ seen.Nodup ∧ ∀ x ∈ seen, ok x ∧ (g x).isSome = true
theorem MapT.range (B : KeyB P k ok enc lit) {t e : TypeId} (h : MapT P k ok lit w b n g) (ht : P.underlying t = some (.map k e)) :
    ∃ w' cnt, (Instr.range t (.map (some b))).run P w = .ok (.pointer (some ⟨w.heap.size, 0, none⟩)) w' ∧ RangeT P k ok lit w' b w.heap.size n g [] cnt ∧ cnt ≤ n ∧ KB NoB w w' ∧ w'.heap.size = w.heap.size + 1 := by
  obtain ⟨f, h1, h2⟩ := h
  obtain ⟨w', left, cnt, a1, a2, a3, a4, a5, a6⟩ := h1.range B.K ht
  refine ⟨w', cnt, a1, ⟨f, left, a2, h2, fun x hx => ?_, List.nodup_nil, by simp⟩, a3, a5, a6⟩
  rw [a4 _ (B.K.key (B.key x hx)), h2 x hx]
  simp
theorem RangeT.next (B : KeyB P k ok enc lit) {r cnt : Nat} {seen : List κ} (h : RangeT P k ok lit w b r n g seen cnt) (ty : TypeId) :
    ((Instr.next (.pointer (some ⟨r, 0, none⟩)) false ty).run P w = .ok (.tuple #[.bool false]) w ∧ ∀ x, ok x → (g x).isSome = true → x ∈ seen) ∨
    ∃ x v w' cnt', ok x ∧ x ∉ seen ∧ g x = some v ∧ (Instr.next (.pointer (some ⟨r, 0, none⟩)) false ty).run P w = .ok (.tuple #[.bool true, enc x, v]) w' ∧
      RangeT P k ok lit w' b r n g (seen ++ [x]) cnt' ∧ cnt' < cnt ∧ KB (fun i => i = r) w w' ∧ w'.heap.size = w.heap.size ∧ (Instr.entry (.pointer (some ⟨r, 0, none⟩))).run P w' = .ok (.tuple #[enc x, v]) w' := by
  obtain ⟨f, left, h1, h2, h3, h4, h5⟩ := h
  rcases h1.next B.K ty with ⟨c0, hl, hrun⟩ | ⟨key, v, kl, w', cnt', a1, a2, a3, a4, a5, a6, a7, a8, a9⟩
  · refine .inl ⟨hrun, fun x hx hg => ?_⟩
    have := h3 x hx
    rw [hl] at this
    exact Classical.byContradiction fun hn => by
      have := this.2 ⟨hg, hn⟩
      cases this
  · obtain ⟨x, hx, rfl, rfl⟩ := B.inv key kl a1
    obtain ⟨hgx, hns⟩ := (h3 x hx).1 a2
    have hv : g x = some v := by rw [← h2 x hx, a3]
    refine .inr ⟨x, v, w', cnt', hx, hns, hv, a4, ⟨f, _, a5, h2, fun y hy => ?_, ?_, ?_⟩, a6, a7, a8, a9⟩
    · rw [Bool.and_eq_true, Bool.not_eq_true', h3 y hy, List.mem_append, List.mem_singleton]
      have hsame : (lit y).sameKey (lit x) = false ↔ y ≠ x := by
        constructor
        · rintro h rfl
          rw [WideAt.sameKey_self (B.K.key a1)] at h
          cases h
        · intro hne
          cases hs : (lit y).sameKey (lit x) with
          | false => rfl
          | true => exact absurd (B.inj y x hy hx (WideAt.sameKey_eq hs)) hne
      rw [hsame]
      constructor
      · rintro ⟨⟨h1, h2⟩, h3⟩
        exact ⟨h1, fun h => h.elim h2 h3⟩
      · rintro ⟨h1, h2⟩
        exact ⟨⟨h1, fun h => h2 (.inl h)⟩, fun h => h2 (.inr h)⟩
    · exact List.nodup_append.2 ⟨h4, by simp, fun a ha c hc => by rw [List.mem_singleton.1 hc]; exact fun e => hns (e ▸ ha)⟩
    · intro y hy
      rcases List.mem_append.1 hy with hy | hy
      · exact h5 y hy
      · rw [List.mem_singleton.1 hy]
        exact ⟨hx, hgx⟩
theorem RangeT.kb {S : Nat → Prop} {r cnt : Nat} {seen : List κ} {w' : World} (h : RangeT P k ok lit w b r n g seen cnt) (hk : KB S w w') (hb : ¬ S b) (hr : ¬ S r) : RangeT P k ok lit w' b r n g seen cnt := by
  obtain ⟨f, left, h1, h2⟩ := h
  exact ⟨f, left, h1.kb hk hb hr, h2⟩
theorem RangeT.map {r cnt : Nat} {seen : List κ} (h : RangeT P k ok lit w b r n g seen cnt) : MapT P k ok lit w b n g := by
  obtain ⟨f, left, h1, h2, h3⟩ := h
  exact ⟨f, h1.map, h2⟩
theorem RangeT.left_eq {r cnt : Nat} {seen : List κ} (h : RangeT P k ok lit w b r n g seen cnt) : w.rangeLeft b r = cnt := by
  obtain ⟨f, left, h1, h2⟩ := h
  exact h1.left_eq
theorem RangeT.nodup {r cnt : Nat} {seen : List κ} (h : RangeT P k ok lit w b r n g seen cnt) : seen.Nodup ∧ ∀ x ∈ seen, ok x ∧ (g x).isSome = true := by
  obtain ⟨f, left, h1, h2, h3, h4, h5⟩ := h
  exact ⟨h4, h5⟩
variable {ops : Array Oper} {rest : List Oper} {o : Oper} {a : Act} {Q : Exit → Act → World → Prop}
theorem wpList_storeT (B : KeyB P k ok enc lit) (hg : o.guard = none) (m x v : Operand) (t e : TypeId) (hop : o.op = Op.mapUpdate t m x v) (ht : P.underlying t = some (.map k e)) (b n : Nat) (g : κ → Option Value) (kx : κ) (val : Value)
    (hm : a.eval m = .map (some b)) (hx : a.eval x = enc kx) (hv : a.eval v = val) (h : MapT P k ok lit w b n g) (hn : n < maxLen) (hok : ok kx)
    (hK : ∀ w', MapT P k ok lit w' b (n + 1) (putT g kx val) → KB (fun i => i = b) w w' → wpList P ops Q rest (a.put o.dst undef) w') : wpList P ops Q (o :: rest) a w := by
  refine wpList_plain hg fun K' hK' => ?_
  obtain ⟨w', hrun, r1, r2⟩ := h.store B ht hn hok val
  unfold Oper.wp
  simp [execOp, hop, hm, hx, hv, hrun, Result.andThen]
  exact hK' _ _ (hK w' r1 r2)
theorem wpList_lookT (B : KeyB P k ok enc lit) (hg : o.guard = none) (m x : Operand) (t e : TypeId) (hop : o.op = Op.lookup t m x false) (ht : P.underlying t = some (.map k e)) (z : Value) (hz : ∀ w, (zeroValue e).run P w = .ok z w) (b n : Nat) (g : κ → Option Value) (kx : κ) (v : Value)
    (hm : a.eval m = .map (some b)) (hx : a.eval x = enc kx) (h : MapT P k ok lit w b n g) (hok : ok kx) (hv : (g kx).getD z = v) (hK : wpList P ops Q rest (a.put o.dst v) w) : wpList P ops Q (o :: rest) a w := by
  refine wpList_plain hg fun K' hK' => ?_
  have hrun := h.look B ht (hz w) hok
  rw [hv] at hrun
  unfold Oper.wp
  simp [execOp, hop, hm, hx, hrun, Result.andThen]
  exact hK' _ _ hK
theorem wpList_lookokT (B : KeyB P k ok enc lit) (hg : o.guard = none) (m x : Operand) (t e : TypeId) (hop : o.op = Op.lookup t m x true) (ht : P.underlying t = some (.map k e)) (z : Value) (hz : ∀ w, (zeroValue e).run P w = .ok z w) (b n : Nat) (g : κ → Option Value) (kx : κ) (v : Value) (c : Bool)
    (hm : a.eval m = .map (some b)) (hx : a.eval x = enc kx) (h : MapT P k ok lit w b n g) (hok : ok kx) (hv : (g kx).getD z = v) (hc : (g kx).isSome = c) (hK : wpList P ops Q rest (a.put o.dst (.tuple #[v, .bool c])) w) : wpList P ops Q (o :: rest) a w := by
  refine wpList_plain hg fun K' hK' => ?_
  have hrun := h.look_ok B ht (hz w) hok
  rw [hv, hc] at hrun
  unfold Oper.wp
  simp [execOp, hop, hm, hx, hrun, Result.andThen]
  exact hK' _ _ hK
theorem wpList_rangeT (B : KeyB P k ok enc lit) (hg : o.guard = none) (m : Operand) (t e : TypeId) (hop : o.op = Op.range t m) (ht : P.underlying t = some (.map k e)) (b n : Nat) (g : κ → Option Value)
    (hm : a.eval m = .map (some b)) (h : MapT P k ok lit w b n g)
    (hK : ∀ w' cnt, RangeT P k ok lit w' b w.heap.size n g [] cnt → cnt ≤ n → KB NoB w w' → w'.heap.size = w.heap.size + 1 → wpList P ops Q rest (a.put o.dst (.pointer (some ⟨w.heap.size, 0, none⟩))) w') : wpList P ops Q (o :: rest) a w := by
  refine wpList_plain hg fun K' hK' => ?_
  obtain ⟨w', cnt, hrun, r1, r2, r3, r4⟩ := h.range B ht
  unfold Oper.wp
  simp [execOp, hop, hm, hrun, Result.andThen]
  exact hK' _ _ (hK w' cnt r1 r2 r3 r4)
theorem wpList_nextT (B : KeyB P k ok enc lit) (hg : o.guard = none) (it : Operand) (hop : o.op = Op.next it false) (b r n : Nat) (g : κ → Option Value) (seen : List κ) (cnt : Nat)
    (hit : a.eval it = .pointer (some ⟨r, 0, none⟩)) (h : RangeT P k ok lit w b r n g seen cnt)
    (hDone : (∀ x, ok x → (g x).isSome = true → x ∈ seen) → wpList P ops Q rest (a.put o.dst (.tuple #[.bool false])) w)
    (hMore : ∀ x v w' cnt', ok x → x ∉ seen → g x = some v → RangeT P k ok lit w' b r n g (seen ++ [x]) cnt' → cnt' < cnt → KB (fun i => i = r) w w' → w'.heap.size = w.heap.size →
      (Instr.entry (.pointer (some ⟨r, 0, none⟩))).run P w' = .ok (.tuple #[enc x, v]) w' → wpList P ops Q rest (a.put o.dst (.tuple #[.bool true, enc x, v])) w') : wpList P ops Q (o :: rest) a w := by
  refine wpList_plain hg fun K' hK' => ?_
  unfold Oper.wp
  rcases h.next B o.type with ⟨hrun, hall⟩ | ⟨x, v, w', cnt', h1, h2, h3, hrun, h4, h5, h6, h7, h8⟩
  · simp [execOp, hop, hit, hrun, Result.andThen]
    exact hK' _ _ (hDone hall)
  · simp [execOp, hop, hit, hrun, Result.andThen]
    exact hK' _ _ (hMore x v w' cnt' h1 h2 h3 h4 h5 h6 h7 h8)
end
end Go.Proofs.Ytgbcihbnaecejaa.Q

namespace Go.Proofs.Ytgbcihbnaecejaa.Q
open Go Go.RowKit Go.Maps Go.Proofs.YtgbcihbnaecejaaW.PrintWords Go.Proofs.YtgbcihbnaecejaaW.PrintLast Go.Proofs.YtgbcihbnaecejaaW.PrintMore
set_option linter.unusedVariables false
set_option linter.unusedSimpArgs false
abbrev okI (x : Int) : Prop := (Lit.int .i64 x).wf = true
abbrev litI (x : Int) : Lit := .int .i64 x
abbrev okS (x : ByteArray) : Prop := x.size ≤ maxLen
abbrev litS (x : ByteArray) : Lit := .string x.data.toList
theorem keyI : KeyB Try.prog 3 okI (fun x => .int .i64 x) litI := KeyB.int Try.underlying3
theorem keyS : KeyB Try.prog 9 okS (fun x => .string x) litS := KeyB.string Try.underlying9
theorem zeroI (w : World) : (zeroValue 3).run Try.prog w = .ok (.int .i64 0) w := by kernel_rfl
theorem zeroP (w : World) : (zeroValue 48).run Try.prog w = .ok (.agg #[.string ⟨#[]⟩, .string ⟨#[]⟩]) w := by kernel_rfl
abbrev pa (p c : ByteArray) : Value := .agg #[.string p, .string c]
def G1 (pre : List Od) (g : Int → Option Value) : Prop := ∀ n, (∃ x ∈ pre, x.f0 = n ∧ g n = some (pa x.f1 x.f2)) ∨ ((∀ x ∈ pre, x.f0 ≠ n) ∧ g n = none)
def G2 (pre : List Od) (g : ByteArray → Option Value) : Prop := ∀ p, (g p).getD (.int .i64 0) = .int .i64 (nums p [] pre)
def VInv (w : World) (pre : List Od) (k : Nat) (wr : World) : Prop :=
  validFrom [] pre = true ∧ (∃ g, MapT Try.prog 3 okI litI wr w.heap.size k g ∧ G1 pre g) ∧ (∃ g, MapT Try.prog 9 okS litS wr (w.heap.size + 1) k g ∧ G2 pre g) ∧ Below w.heap.size w wr
theorem od_blk {W : World} {b : Nat} {o : Od} (h : W.heap[b]? = some (.cells #[.int .i64 o.f0, .string o.f1, .string o.f2, .int .i64 o.f3, .int .i64 o.f4, .int .i64 o.f5, .int .i64 o.f6, .bool o.f7] 24 (0, 0))) : W.cell? ⟨b, 0, none⟩ = some (.int .i64 o.f0) ∧ W.cell? ⟨b, 1, none⟩ = some (.string o.f1) ∧ W.cell? ⟨b, 2, none⟩ = some (.string o.f2) ∧ W.cell? ⟨b, 3, none⟩ = some (.int .i64 o.f3) ∧ W.cell? ⟨b, 4, none⟩ = some (.int .i64 o.f4) ∧ W.cell? ⟨b, 5, none⟩ = some (.int .i64 o.f5) ∧ W.cell? ⟨b, 6, none⟩ = some (.int .i64 o.f6) ∧ W.cell? ⟨b, 7, none⟩ = some (.bool o.f7) :=
  ⟨blk_cell h 0, blk_cell h 1, blk_cell h 2, blk_cell h 3, blk_cell h 4, blk_cell h 5, blk_cell h 6, blk_cell h 7⟩
theorem G1.keep {pre : List Od} {g : Int → Option Value} {o x : Od} (h : G1 pre g) (hx : x ∈ pre) (he : x.f0 = o.f0) : G1 (pre ++ [o]) g := by
  intro n
  rcases h n with ⟨y, a, b, c⟩ | ⟨a, b⟩
  · exact .inl ⟨y, by simp [a], b, c⟩
  · refine .inr ⟨fun y hy => ?_, b⟩
    rcases List.mem_append.1 hy with hy | hy
    · exact a y hy
    · rw [List.mem_singleton.1 hy, ← he]
      exact a x hx
theorem G1.put {pre : List Od} {g : Int → Option Value} {o : Od} (h : G1 pre g) : G1 (pre ++ [o]) (putT g o.f0 (pa o.f1 o.f2)) := by
  intro n
  by_cases e : n = o.f0
  · exact .inl ⟨o, by simp, e.symm, by rw [e, putT_same]⟩
  · rw [putT_ne _ _ e]
    rcases h n with ⟨y, a, b, c⟩ | ⟨a, b⟩
    · exact .inl ⟨y, by simp [a], b, c⟩
    · refine .inr ⟨fun y hy => ?_, b⟩
      rcases List.mem_append.1 hy with hy | hy
      · exact a y hy
      · rw [List.mem_singleton.1 hy]
        exact fun h => e h.symm
theorem G2.keep {pre : List Od} {g : ByteArray → Option Value} {o : Od} (h : G2 pre g) (hn : newIn pre o = false) : G2 (pre ++ [o]) g := by
  intro p
  rw [h p, nums_snoc, hn]
  simp
theorem G2.put {pre : List Od} {g : ByteArray → Option Value} {o : Od} (h : G2 pre g) (hn : newIn pre o = true) : G2 (pre ++ [o]) (putT g o.f1 (.int .i64 ((nums o.f1 [] pre : Nat) + 1 : Int))) := by
  intro p
  rw [nums_snoc, hn]
  by_cases e : p = o.f1
  · subst e
    rw [putT_same]
    simp
  · rw [putT_ne _ _ e, h p, if_neg (fun h => e h.1.symm), Nat.add_zero]
set_option maxRecDepth 100000 in
set_option maxHeartbeats 4000000 in
theorem valid_any (A0 : Option Addr) (c0 : Nat) (l0 : List Od) (w : World) (hr0 : Kd.C k24 w A0 l0.length l0) (hc0 : l0.length ≤ c0) :
    Calls Try.prog 14 #[.slice A0 l0.length c0] w fun e w' => e = .returned (.bool (valid l0)) ∧ Below w.heap.size w w' := by
  have HC := Lib.hid hr0
  have HL := Lib.hid hc0
  clear hr0 hc0
  by_cases hlen : l0.length ≤ 400
  · have hmm := @run_makeMap Try.prog
    go_enter Try.func14, Try.ntmps14
    go_wp2
    go_loopw [17] (fun i wr => ∃ k : Nat, k ≤ l0.length ∧ i = .int .i64 k ∧ VInv w (l0.take k) k wr) (fun i _ => l0.length - (intOf i).toNat)
    case atStart => 
      refine ⟨0, Nat.zero_le _, rfl, rfl, ⟨_, (MapT.made _ _ _ _ _).alloc _, fun n => .inr ⟨by simp, rfl⟩⟩, ⟨fun _ => none, ?_, fun p => rfl⟩, below_alloc (below_alloc (Below.refl _ _) _) _⟩
      have := MapT.made Try.prog 9 okS litS (w.alloc (.map #[] 0))
      rwa [World.size_alloc] at this
    case round =>
      obtain ⟨k, hk, rfl, hI⟩ := hrel
      by_cases hlt : k < l0.length
      · have HB := Lib.hid hI.2.2.2
        obtain ⟨ad, rfl, a0, a1, a2, a3, a4, a5, a6, a7⟩ := od_cells (Kd.C_below HC.out HB.out) hlt
        generalize ho : odAt l0 k = o at *
        have HO := Lib.hid ho
        have HI := Lib.hid hI
        clear ho hI
        cases hf : formedOk o with
        | false =>
          have HF := Lib.hid (formed_b hf)
          have HV := Lib.hid (valid_stop hlt (by rw [HO.out]; unfold okNext; rw [hf]; rfl))
          clear hf
          go_wp2_with fail
          refine start_ (n := 18) (S := fun W => W.heap[wr.heap.size]? = some (.cells #[.int .i64 o.f0, .string o.f1, .string o.f2, .int .i64 o.f3, .int .i64 o.f4, .int .i64 o.f5, .int .i64 o.f6, .bool o.f7] 24 (0, 0)) ∧ Below wr.heap.size wr W) (ds := []) #[false, false, false, false, false, false, false, false, false, false, false, false, false, false, false, false, false, false] (by kernel_rfl) rfl rfl ⟨blk_drew (World.alloc_heap_new _ _), below_drew1 (below_alloc (Below.refl _ _) _)⟩ (fun hHeld => ?_)
          refine take_ (i := 0) (N := (some 22)) (v := ?_) (a' := ?_) #[true, false, false, false, false, false, false, false, false, false, false, false, false, false, false, false, false, false] rfl rfl (by kernel_rfl) (fun _ _ _ h => h) (Or.inl ⟨by rfl, ?_⟩) hHeld ?_ ?_
          rotate_left
          · rintro w' ⟨s, -⟩
            obtain ⟨c0, c1, c2, c3, c4, c5, c6, c7⟩ := od_blk s
            clear s
            go_simp
            with_reducible rfl
          rotate_left
          · simp only [Act.put, List.setIfInBounds_toArray, List.set_cons_zero, List.set_cons_succ, i64_w, i32_w]
            rfl
          refine one_ (i := 1) (N := (some 23)) #[true, true, false, false, false, false, false, false, false, false, false, false, false, false, false, false, false, false] rfl rfl (by kernel_rfl) (by decide) (fun K hK => ?_)
          refine goes_ Try.func20 (by kernel_rfl) rfl #[odV o] (by rfl) rfl rfl (by (try simp only [List.map_toArray, List.map_cons, List.map_nil]); first | done | rfl) ?_
          with_reducible refine (HF.out _).mono ?_
          rintro e w' ⟨rfl, hb⟩
          refine ⟨_, rfl, ?_⟩
          refine hK.out _ _ ⟨blk_below hHeld.1 hb, below_step hHeld.2 hb⟩ (fun hHeld => ?_)
          clear hK K
          clear hb
          refine norm_ (a' := ?_) ?_ ?_
          rotate_left
          · show Act.put _ (some 23) _ = _
            simp only [Act.put, List.setIfInBounds_toArray, List.set_cons_zero, List.set_cons_succ, i64_w, i32_w]
            rfl
          refine pure_ (i := 2) (N := (some 24)) (v := ?_) (a' := ?_) #[true, true, true, false, false, false, false, false, false, false, false, false, false, false, false, false, false, false] rfl rfl (by kernel_rfl) (fun _ _ _ h => h) (Or.inl ⟨by rfl, ?_⟩) ?_ ?_
          rotate_left
          · intro w'
            go_simp
            with_reducible rfl
          rotate_left
          · simp only [Act.put, List.setIfInBounds_toArray, List.set_cons_zero, List.set_cons_succ, i64_w, i32_w]
            rfl
          refine pure_ (i := 3) (N := (some 25)) (v := ?_) (a' := ?_) #[true, true, true, true, false, false, false, false, false, false, false, false, false, false, false, false, false, false] rfl rfl (by kernel_rfl) (fun _ _ _ h => h) (Or.inl ⟨by rfl, ?_⟩) ?_ ?_
          rotate_left
          · intro w'
            go_simp
            with_reducible rfl
          rotate_left
          · simp only [Act.put, List.setIfInBounds_toArray, List.set_cons_zero, List.set_cons_succ, i64_w, i32_w]
            rfl
          refine pure_ (i := 4) (N := (some 26)) (v := undef) (a' := ?_) #[true, true, true, true, true, false, false, false, false, false, false, false, false, false, false, false, false, false] rfl rfl (by kernel_rfl) (fun _ _ _ h => h) (Or.inr ⟨by rfl, rfl⟩) ?_ ?_
          rotate_left
          · simp only [Act.put, List.setIfInBounds_toArray, List.set_cons_zero, List.set_cons_succ, i64_w, i32_w]
            rfl
          refine pure_ (i := 5) (N := (some 27)) (v := undef) (a' := ?_) #[true, true, true, true, true, true, false, false, false, false, false, false, false, false, false, false, false, false] rfl rfl (by kernel_rfl) (fun _ _ _ h => h) (Or.inr ⟨by rfl, rfl⟩) ?_ ?_
          rotate_left
          · simp only [Act.put, List.setIfInBounds_toArray, List.set_cons_zero, List.set_cons_succ, i64_w, i32_w]
            rfl
          refine pure_ (i := 6) (N := (some 28)) (v := undef) (a' := ?_) #[true, true, true, true, true, true, true, false, false, false, false, false, false, false, false, false, false, false] rfl rfl (by kernel_rfl) (fun _ _ _ h => h) (Or.inr ⟨by rfl, rfl⟩) ?_ ?_
          rotate_left
          · simp only [Act.put, List.setIfInBounds_toArray, List.set_cons_zero, List.set_cons_succ, i64_w, i32_w]
            rfl
          refine pure_ (i := 7) (N := (some 29)) (v := undef) (a' := ?_) #[true, true, true, true, true, true, true, true, false, false, false, false, false, false, false, false, false, false] rfl rfl (by kernel_rfl) (fun _ _ _ h => h) (Or.inr ⟨by rfl, rfl⟩) ?_ ?_
          rotate_left
          · simp only [Act.put, List.setIfInBounds_toArray, List.set_cons_zero, List.set_cons_succ, i64_w, i32_w]
            rfl
          refine pure_ (i := 8) (N := (some 30)) (v := undef) (a' := ?_) #[true, true, true, true, true, true, true, true, true, false, false, false, false, false, false, false, false, false] rfl rfl (by kernel_rfl) (fun _ _ _ h => h) (Or.inr ⟨by rfl, rfl⟩) ?_ ?_
          rotate_left
          · simp only [Act.put, List.setIfInBounds_toArray, List.set_cons_zero, List.set_cons_succ, i64_w, i32_w]
            rfl
          refine pure_ (i := 9) (N := (some 31)) (v := undef) (a' := ?_) #[true, true, true, true, true, true, true, true, true, true, false, false, false, false, false, false, false, false] rfl rfl (by kernel_rfl) (fun _ _ _ h => h) (Or.inr ⟨by rfl, rfl⟩) ?_ ?_
          rotate_left
          · simp only [Act.put, List.setIfInBounds_toArray, List.set_cons_zero, List.set_cons_succ, i64_w, i32_w]
            rfl
          refine pure_ (i := 10) (N := (some 32)) (v := undef) (a' := ?_) #[true, true, true, true, true, true, true, true, true, true, true, false, false, false, false, false, false, false] rfl rfl (by kernel_rfl) (fun _ _ _ h => h) (Or.inr ⟨by rfl, rfl⟩) ?_ ?_
          rotate_left
          · simp only [Act.put, List.setIfInBounds_toArray, List.set_cons_zero, List.set_cons_succ, i64_w, i32_w]
            rfl
          refine pure_ (i := 11) (N := (some 33)) (v := undef) (a' := ?_) #[true, true, true, true, true, true, true, true, true, true, true, true, false, false, false, false, false, false] rfl rfl (by kernel_rfl) (fun _ _ _ h => h) (Or.inr ⟨by rfl, rfl⟩) ?_ ?_
          rotate_left
          · simp only [Act.put, List.setIfInBounds_toArray, List.set_cons_zero, List.set_cons_succ, i64_w, i32_w]
            rfl
          refine pure_ (i := 12) (N := (some 34)) (v := undef) (a' := ?_) #[true, true, true, true, true, true, true, true, true, true, true, true, true, false, false, false, false, false] rfl rfl (by kernel_rfl) (fun _ _ _ h => h) (Or.inr ⟨by rfl, rfl⟩) ?_ ?_
          rotate_left
          · simp only [Act.put, List.setIfInBounds_toArray, List.set_cons_zero, List.set_cons_succ, i64_w, i32_w]
            rfl
          refine pure_ (i := 13) (N := (some 35)) (v := undef) (a' := ?_) #[true, true, true, true, true, true, true, true, true, true, true, true, true, true, false, false, false, false] rfl rfl (by kernel_rfl) (fun _ _ _ h => h) (Or.inr ⟨by rfl, rfl⟩) ?_ ?_
          rotate_left
          · simp only [Act.put, List.setIfInBounds_toArray, List.set_cons_zero, List.set_cons_succ, i64_w, i32_w]
            rfl
          refine pure_ (i := 14) (N := (some 36)) (v := undef) (a' := ?_) #[true, true, true, true, true, true, true, true, true, true, true, true, true, true, true, false, false, false] rfl rfl (by kernel_rfl) (fun _ _ _ h => h) (Or.inr ⟨by rfl, rfl⟩) ?_ ?_
          rotate_left
          · simp only [Act.put, List.setIfInBounds_toArray, List.set_cons_zero, List.set_cons_succ, i64_w, i32_w]
            rfl
          refine pure_ (i := 15) (N := (some 37)) (v := undef) (a' := ?_) #[true, true, true, true, true, true, true, true, true, true, true, true, true, true, true, true, false, false] rfl rfl (by kernel_rfl) (fun _ _ _ h => h) (Or.inr ⟨by rfl, rfl⟩) ?_ ?_
          rotate_left
          · simp only [Act.put, List.setIfInBounds_toArray, List.set_cons_zero, List.set_cons_succ, i64_w, i32_w]
            rfl
          refine pure_ (i := 16) (N := (some 38)) (v := undef) (a' := ?_) #[true, true, true, true, true, true, true, true, true, true, true, true, true, true, true, true, true, false] rfl rfl (by kernel_rfl) (fun _ _ _ h => h) (Or.inr ⟨by rfl, rfl⟩) ?_ ?_
          rotate_left
          · simp only [Act.put, List.setIfInBounds_toArray, List.set_cons_zero, List.set_cons_succ, i64_w, i32_w]
            rfl
          refine pure_ (i := 17) (N := (some 39)) (v := ?_) (a' := ?_) #[true, true, true, true, true, true, true, true, true, true, true, true, true, true, true, true, true, true] rfl rfl (by kernel_rfl) (fun _ _ _ h => h) (Or.inl ⟨by rfl, ?_⟩) ?_ ?_
          rotate_left
          · intro w'
            go_simp
            with_reducible rfl
          rotate_left
          · simp only [Act.put, List.setIfInBounds_toArray, List.set_cons_zero, List.set_cons_succ, i64_w, i32_w]
            rfl
          refine done_ (by kernel_rfl) ?_
          go_wp2_with fail
          go_ret
          exact ⟨by rw [HV.out]; rfl, below_step HB.out hHeld.2⟩
        | true =>
          have HF := Lib.hid (formed_b hf)
          have HFF := Lib.hid hf
          clear hf
          by_cases hk0 : k = 0
          · have hz : decide (0 < k) = false := decide_eq_false (by omega)
            have HLL := Lib.hid (show lastLe (l0.take k) o = true from by rw [← HO.out, lastLe_at hlt]; exact decide_eq_true (fun h => by omega))
            clear hk0
            go_wp2_with fail
            refine start_ (n := 18) (S := fun W => W.heap[wr.heap.size]? = some (.cells #[.int .i64 o.f0, .string o.f1, .string o.f2, .int .i64 o.f3, .int .i64 o.f4, .int .i64 o.f5, .int .i64 o.f6, .bool o.f7] 24 (0, 0)) ∧ Below wr.heap.size wr W) (ds := []) #[false, false, false, false, false, false, false, false, false, false, false, false, false, false, false, false, false, false] (by kernel_rfl) rfl rfl ⟨blk_drew (World.alloc_heap_new _ _), below_drew1 (below_alloc (Below.refl _ _) _)⟩ (fun hHeld => ?_)
            refine take_ (i := 0) (N := (some 22)) (v := ?_) (a' := ?_) #[true, false, false, false, false, false, false, false, false, false, false, false, false, false, false, false, false, false] rfl rfl (by kernel_rfl) (fun _ _ _ h => h) (Or.inl ⟨by rfl, ?_⟩) hHeld ?_ ?_
            rotate_left
            · rintro w' ⟨s, -⟩
              obtain ⟨c0, c1, c2, c3, c4, c5, c6, c7⟩ := od_blk s
              clear s
              go_simp
              with_reducible rfl
            rotate_left
            · simp only [Act.put, List.setIfInBounds_toArray, List.set_cons_zero, List.set_cons_succ, i64_w, i32_w]
              rfl
            refine one_ (i := 1) (N := (some 23)) #[true, true, false, false, false, false, false, false, false, false, false, false, false, false, false, false, false, false] rfl rfl (by kernel_rfl) (by decide) (fun K hK => ?_)
            refine goes_ Try.func20 (by kernel_rfl) rfl #[odV o] (by rfl) rfl rfl (by (try simp only [List.map_toArray, List.map_cons, List.map_nil]); first | done | rfl) ?_
            with_reducible refine (HF.out _).mono ?_
            rintro e w' ⟨rfl, hb⟩
            refine ⟨_, rfl, ?_⟩
            refine hK.out _ _ ⟨blk_below hHeld.1 hb, below_step hHeld.2 hb⟩ (fun hHeld => ?_)
            clear hK K
            clear hb
            refine norm_ (a' := ?_) ?_ ?_
            rotate_left
            · show Act.put _ (some 23) _ = _
              simp only [Act.put, List.setIfInBounds_toArray, List.set_cons_zero, List.set_cons_succ, i64_w, i32_w]
              rfl
            refine pure_ (i := 2) (N := (some 24)) (v := ?_) (a' := ?_) #[true, true, true, false, false, false, false, false, false, false, false, false, false, false, false, false, false, false] rfl rfl (by kernel_rfl) (fun _ _ _ h => h) (Or.inl ⟨by rfl, ?_⟩) ?_ ?_
            rotate_left
            · intro w'
              go_simp
              with_reducible rfl
            rotate_left
            · simp only [Act.put, List.setIfInBounds_toArray, List.set_cons_zero, List.set_cons_succ, i64_w, i32_w]
              rfl
            refine pure_ (i := 3) (N := (some 25)) (v := ?_) (a' := ?_) #[true, true, true, true, false, false, false, false, false, false, false, false, false, false, false, false, false, false] rfl rfl (by kernel_rfl) (fun _ _ _ h => h) (Or.inl ⟨by rfl, ?_⟩) ?_ ?_
            rotate_left
            · intro w'
              go_simp
              with_reducible rfl
            rotate_left
            · simp only [Act.put, List.setIfInBounds_toArray, List.set_cons_zero, List.set_cons_succ, i64_w, i32_w]
              rfl
            refine pure_ (i := 4) (N := (some 26)) (v := ?_) (a' := ?_) #[true, true, true, true, true, false, false, false, false, false, false, false, false, false, false, false, false, false] rfl rfl (by kernel_rfl) (fun _ _ _ h => h) (Or.inl ⟨by rfl, ?_⟩) ?_ ?_
            rotate_left
            · intro w'
              go_simp
              with_reducible rfl
            rotate_left
            · simp only [Act.put, List.setIfInBounds_toArray, List.set_cons_zero, List.set_cons_succ, i64_w, i32_w]
              rfl
            refine pure_ (i := 5) (N := (some 27)) (v := ?_) (a' := ?_) #[true, true, true, true, true, true, false, false, false, false, false, false, false, false, false, false, false, false] rfl rfl (by kernel_rfl) (fun _ _ _ h => h) (Or.inl ⟨by rfl, ?_⟩) ?_ ?_
            rotate_left
            · intro w'
              go_simp
              with_reducible rfl
            rotate_left
            · simp only [Act.put, List.setIfInBounds_toArray, List.set_cons_zero, List.set_cons_succ, i64_w, i32_w]
              rfl
            refine pure_ (i := 6) (N := (some 28)) (v := ?_) (a' := ?_) #[true, true, true, true, true, true, true, false, false, false, false, false, false, false, false, false, false, false] rfl rfl (by kernel_rfl) (fun _ _ _ h => h) (Or.inl ⟨by rfl, ?_⟩) ?_ ?_
            rotate_left
            · intro w'
              go_simp
              with_reducible rfl
            rotate_left
            · simp only [Act.put, List.setIfInBounds_toArray, List.set_cons_zero, List.set_cons_succ, i64_w, i32_w]
              rfl
            refine pure_ (i := 7) (N := (some 29)) (v := undef) (a' := ?_) #[true, true, true, true, true, true, true, true, false, false, false, false, false, false, false, false, false, false] rfl rfl (by kernel_rfl) (fun _ _ _ h => h) (Or.inr ⟨by rfl, rfl⟩) ?_ ?_
            rotate_left
            · simp only [Act.put, List.setIfInBounds_toArray, List.set_cons_zero, List.set_cons_succ, i64_w, i32_w]
              rfl
            refine pure_ (i := 8) (N := (some 30)) (v := undef) (a' := ?_) #[true, true, true, true, true, true, true, true, true, false, false, false, false, false, false, false, false, false] rfl rfl (by kernel_rfl) (fun _ _ _ h => h) (Or.inr ⟨by rfl, rfl⟩) ?_ ?_
            rotate_left
            · simp only [Act.put, List.setIfInBounds_toArray, List.set_cons_zero, List.set_cons_succ, i64_w, i32_w]
              rfl
            refine pure_ (i := 9) (N := (some 31)) (v := undef) (a' := ?_) #[true, true, true, true, true, true, true, true, true, true, false, false, false, false, false, false, false, false] rfl rfl (by kernel_rfl) (fun _ _ _ h => h) (Or.inr ⟨by rfl, rfl⟩) ?_ ?_
            rotate_left
            · simp only [Act.put, List.setIfInBounds_toArray, List.set_cons_zero, List.set_cons_succ, i64_w, i32_w]
              rfl
            refine pure_ (i := 10) (N := (some 32)) (v := undef) (a' := ?_) #[true, true, true, true, true, true, true, true, true, true, true, false, false, false, false, false, false, false] rfl rfl (by kernel_rfl) (fun _ _ _ h => h) (Or.inr ⟨by rfl, rfl⟩) ?_ ?_
            rotate_left
            · simp only [Act.put, List.setIfInBounds_toArray, List.set_cons_zero, List.set_cons_succ, i64_w, i32_w]
              rfl
            refine pure_ (i := 11) (N := (some 33)) (v := undef) (a' := ?_) #[true, true, true, true, true, true, true, true, true, true, true, true, false, false, false, false, false, false] rfl rfl (by kernel_rfl) (fun _ _ _ h => h) (Or.inr ⟨by rfl, rfl⟩) ?_ ?_
            rotate_left
            · simp only [Act.put, List.setIfInBounds_toArray, List.set_cons_zero, List.set_cons_succ, i64_w, i32_w]
              rfl
            refine pure_ (i := 12) (N := (some 34)) (v := undef) (a' := ?_) #[true, true, true, true, true, true, true, true, true, true, true, true, true, false, false, false, false, false] rfl rfl (by kernel_rfl) (fun _ _ _ h => h) (Or.inr ⟨by rfl, rfl⟩) ?_ ?_
            rotate_left
            · simp only [Act.put, List.setIfInBounds_toArray, List.set_cons_zero, List.set_cons_succ, i64_w, i32_w]
              rfl
            refine pure_ (i := 13) (N := (some 35)) (v := undef) (a' := ?_) #[true, true, true, true, true, true, true, true, true, true, true, true, true, true, false, false, false, false] rfl rfl (by kernel_rfl) (fun _ _ _ h => h) (Or.inr ⟨by rfl, rfl⟩) ?_ ?_
            rotate_left
            · simp only [Act.put, List.setIfInBounds_toArray, List.set_cons_zero, List.set_cons_succ, i64_w, i32_w]
              rfl
            refine pure_ (i := 14) (N := (some 36)) (v := undef) (a' := ?_) #[true, true, true, true, true, true, true, true, true, true, true, true, true, true, true, false, false, false] rfl rfl (by kernel_rfl) (fun _ _ _ h => h) (Or.inr ⟨by rfl, rfl⟩) ?_ ?_
            rotate_left
            · simp only [Act.put, List.setIfInBounds_toArray, List.set_cons_zero, List.set_cons_succ, i64_w, i32_w]
              rfl
            refine pure_ (i := 15) (N := (some 37)) (v := undef) (a' := ?_) #[true, true, true, true, true, true, true, true, true, true, true, true, true, true, true, true, false, false] rfl rfl (by kernel_rfl) (fun _ _ _ h => h) (Or.inr ⟨by rfl, rfl⟩) ?_ ?_
            rotate_left
            · simp only [Act.put, List.setIfInBounds_toArray, List.set_cons_zero, List.set_cons_succ, i64_w, i32_w]
              rfl
            refine pure_ (i := 16) (N := (some 38)) (v := ?_) (a' := ?_) #[true, true, true, true, true, true, true, true, true, true, true, true, true, true, true, true, true, false] rfl rfl (by kernel_rfl) (fun _ _ _ h => h) (Or.inl ⟨by rfl, ?_⟩) ?_ ?_
            rotate_left
            · intro w'
              go_simp
              with_reducible rfl
            rotate_left
            · simp only [Act.put, List.setIfInBounds_toArray, List.set_cons_zero, List.set_cons_succ, i64_w, i32_w]
              rfl
            refine pure_ (i := 17) (N := (some 39)) (v := ?_) (a' := ?_) #[true, true, true, true, true, true, true, true, true, true, true, true, true, true, true, true, true, true] rfl rfl (by kernel_rfl) (fun _ _ _ h => h) (Or.inl ⟨by rfl, ?_⟩) ?_ ?_
            rotate_left
            · intro w'
              go_simp
              with_reducible rfl
            rotate_left
            · simp only [Act.put, List.setIfInBounds_toArray, List.set_cons_zero, List.set_cons_succ, i64_w, i32_w]
              rfl
            refine done_ (by kernel_rfl) ?_
            have HS := Lib.hid hHeld
            clear hHeld
            obtain ⟨s, sb⟩ := HS.out
            obtain ⟨v0, v1, v2, v3, v4, v5, v6, v7⟩ := od_blk s
            have hsz := (Array.getElem?_eq_some_iff.1 s).1
            clear s sb
            obtain ⟨hva, ⟨g1, hm1, hg1⟩, ⟨g2, hm2, hg2⟩, hbw⟩ := HI.out
            have hff := FOk.of HFF.out
            have hn1 := hg1 o.f0
            have hn2 := hg2 o.f1
            have h16 := few_of hva o.f1
            have HWR := hm2.lt
            have HM1 := Lib.hid (hm1.below HS.out.2 hm1.lt)
            have HM2 := Lib.hid (hm2.below HS.out.2 hm2.lt)
            have HG := Lib.hid (And.intro hg1 (And.intro hg2 hva))
            have okn : okI o.f0 := WalkArith.wf_i64 (by have := hff.f0; omega)
            have okp : okS o.f1 := by have := hff.f1; show _ ≤ maxLen; unfold maxLen; omega
            have HOK := Lib.hid (And.intro okn okp)
            have hkm : k < maxLen ∧ k + 1 < maxLen := by unfold maxLen; omega
            have HKM := Lib.hid hkm
            generalize hN : nums o.f1 [] (l0.take k) = nn at *
            have HN := Lib.hid hN
            have HN2 := Lib.hid hn2
            have HBB := Lib.hid (below_step HB.out HS.out.2)
            clear hva hm1 hg1 hm2 hg2 hbw hff okn okp hN hn2 hkm
            rcases hn1 with ⟨x, hx, hxn, hgx⟩ | ⟨hne, hgx⟩
            · have HX := Lib.hid (And.intro hx hxn)
              have HGX := Lib.hid hgx
              have h17 : ¬ (16 : Int) < (nn : Int) := by omega
              clear hx hxn hgx
              by_cases hsame : x.f1 = o.f1 ∧ x.f2 = o.f2
              · have HSA := Lib.hid hsame
                clear hsame
                go_wp2_with (first
                  | (at_lookup; refine wpList_lookokT keyI rfl _ _ 45 48 rfl Try.underlying45 _ zeroP w.heap.size k g1 o.f0 (pa o.f1 o.f2) true rfl rfl (HM1.out.alloc _) HOK.out.1 (by rw [HGX.out, HSA.out.1, HSA.out.2]; rfl) (by rw [HGX.out]; rfl) ?_)
                  | (at_lookup; refine wpList_lookT keyS rfl _ _ 46 3 rfl Try.underlying46 _ zeroI (w.heap.size + 1) k g2 o.f1 (.int .i64 nn) rfl rfl ((HM2.out.alloc _).alloc _) HOK.out.2 HN2.out ?_)
                  | go_in)
                go_roundw
                case rel =>
                  refine ⟨k + 1, by omega, by go_num, validFrom_next hlt HG.out.2.2 (by rw [HO.out]; exact okNext_old HG.out.2.2 HFF.out HLL.out HX.out.1 HX.out.2 HSA.out), ⟨g1, ((HM1.out.alloc _).alloc _).mono (by omega), ?_⟩, ⟨g2, ((HM2.out.alloc _).alloc _).mono (by omega), ?_⟩, below_alloc (below_alloc HBB.out _) _⟩
                  · rw [take_odAt hlt, HO.out]
                    exact HG.out.1.keep HX.out.1 HX.out.2
                  · rw [take_odAt hlt, HO.out]
                    exact HG.out.2.1.keep (newIn_false HX.out.1 HX.out.2)
                case measure => simp [intOf]; omega
              · have HV := Lib.hid (valid_stop hlt (by rw [HO.out]; exact okNext_diff HX.out.1 HX.out.2 hsame))
                by_cases h1 : x.f1 = o.f1
                · have ne : ¬ x.f2.toList = o.f2.toList := fun h => hsame ⟨h1, str_eq.1 h⟩
                  have H1 := Lib.hid h1
                  clear hsame h1
                  go_wp2_with (first
                    | (at_lookup; refine wpList_lookokT keyI rfl _ _ 45 48 rfl Try.underlying45 _ zeroP w.heap.size k g1 o.f0 (pa o.f1 x.f2) true rfl rfl (HM1.out.alloc _) HOK.out.1 (by rw [HGX.out, H1.out]; rfl) (by rw [HGX.out]; rfl) ?_)
                    | go_in)
                  go_ret
                  exact ⟨by rw [HV.out]; rfl, below_alloc (below_alloc HBB.out _) _⟩
                · have ne : ¬ x.f1.toList = o.f1.toList := fun h => h1 (str_eq.1 h)
                  clear hsame h1
                  go_wp2_with (first
                    | (at_lookup; refine wpList_lookokT keyI rfl _ _ 45 48 rfl Try.underlying45 _ zeroP w.heap.size k g1 o.f0 (pa x.f1 x.f2) true rfl rfl (HM1.out.alloc _) HOK.out.1 (by rw [HGX.out]; rfl) (by rw [HGX.out]; rfl) ?_)
                    | go_in)
                  go_ret
                  exact ⟨by rw [HV.out]; rfl, below_alloc (below_alloc HBB.out _) _⟩
            · have HNE := Lib.hid hne
              have HGX := Lib.hid hgx
              have HNX := Lib.hid (newIn_iff.2 hne)
              clear hne hgx
              by_cases h17 : nn + 1 ≤ 16
              · have h18 : ¬ (16 : Int) < (nn : Int) + 1 := by omega
                go_wp2_with (first
                  | (at_lookup; refine wpList_lookokT keyI rfl _ _ 45 48 rfl Try.underlying45 _ zeroP w.heap.size k g1 o.f0 (.agg #[.string ⟨#[]⟩, .string ⟨#[]⟩]) false rfl rfl (HM1.out.alloc _) HOK.out.1 (by rw [HGX.out]; rfl) (by rw [HGX.out]; rfl) ?_)
                  | (at_mapUpdate; refine wpList_storeT keyI rfl _ _ _ 45 48 rfl Try.underlying45 w.heap.size k g1 o.f0 (pa o.f1 o.f2) rfl rfl rfl ((HM1.out.alloc _).alloc _) HKM.out.1 HOK.out.1 ?_; intro w1 m1 k1; have y1 := k1.cell (a := ⟨wr.heap.size, 1, none⟩) (show ¬ wr.heap.size = w.heap.size by omega) (pw_cell_below (below_alloc (below_alloc (Below.refl _ _) _) _) v1); have HW1 := Lib.hid (And.intro m1 (And.intro (((HM2.out.alloc _).alloc _).kb k1 (show ¬ w.heap.size + 1 = w.heap.size by omega)) (Below.trans (below_alloc (below_alloc HBB.out _) _) (k1.below (B := w.heap.size) (by simp; omega) (fun k h => by have h2 : k = w.heap.size := h; omega))))); clear m1 k1)
                  | (at_lookup; refine wpList_lookT keyS rfl _ _ 46 3 rfl Try.underlying46 _ zeroI (w.heap.size + 1) (k + 1) (putT g2 o.f1 (.int .i64 ((nn : Int) + 1))) o.f1 (.int .i64 ((nn : Int) + 1)) rfl rfl HW2.out.1 HOK.out.2 (by rw [putT_same]; rfl) ?_)
                  | (at_lookup; refine wpList_lookT keyS rfl _ _ 46 3 rfl Try.underlying46 _ zeroI (w.heap.size + 1) k g2 o.f1 (.int .i64 nn) rfl rfl HW1.out.2.1 HOK.out.2 HN2.out ?_)
                  | (at_mapUpdate; refine wpList_storeT keyS rfl _ _ _ 46 3 rfl Try.underlying46 (w.heap.size + 1) k g2 o.f1 (.int .i64 ((nn : Int) + 1)) rfl rfl rfl HW1.out.2.1 HKM.out.1 HOK.out.2 ?_; intro w2 m2 k2; have z1 := k2.cell (a := ⟨wr.heap.size, 1, none⟩) (show ¬ wr.heap.size = w.heap.size + 1 by omega) y1; have HW2 := Lib.hid (And.intro m2 (And.intro (HW1.out.1.kb k2 (show ¬ w.heap.size = w.heap.size + 1 by omega)) (Below.trans HW1.out.2.2 (k2.below (B := w.heap.size) HW1.out.2.2.size (fun k h => by have h2 : k = w.heap.size + 1 := h; omega))))); clear m2 k2)
                  | go_in)
                go_roundw
                case rel =>
                  refine ⟨k + 1, by omega, by go_num, validFrom_next hlt HG.out.2.2 (by rw [HO.out, okNext_new HFF.out HLL.out HNE.out, HN.out]; exact decide_eq_true h17), ⟨_, HW2.out.2.1, ?_⟩, ⟨_, HW2.out.1, ?_⟩, HW2.out.2.2⟩
                  · rw [take_odAt hlt, HO.out]
                    exact HG.out.1.put
                  · rw [take_odAt hlt, HO.out, ← HN.out]
                    exact HG.out.2.1.put HNX.out
                case measure => simp [intOf]; omega
              · have h18 : (16 : Int) < (nn : Int) + 1 := by omega
                have HV := Lib.hid (valid_stop hlt (by rw [HO.out, okNext_new HFF.out HLL.out HNE.out, HN.out]; exact decide_eq_false h17))
                go_wp2_with (first
                  | (at_lookup; refine wpList_lookokT keyI rfl _ _ 45 48 rfl Try.underlying45 _ zeroP w.heap.size k g1 o.f0 (.agg #[.string ⟨#[]⟩, .string ⟨#[]⟩]) false rfl rfl (HM1.out.alloc _) HOK.out.1 (by rw [HGX.out]; rfl) (by rw [HGX.out]; rfl) ?_)
                  | (at_mapUpdate; refine wpList_storeT keyI rfl _ _ _ 45 48 rfl Try.underlying45 w.heap.size k g1 o.f0 (pa o.f1 o.f2) rfl rfl rfl ((HM1.out.alloc _).alloc _) HKM.out.1 HOK.out.1 ?_; intro w1 m1 k1; have y1 := k1.cell (a := ⟨wr.heap.size, 1, none⟩) (show ¬ wr.heap.size = w.heap.size by omega) (pw_cell_below (below_alloc (below_alloc (Below.refl _ _) _) _) v1); have HW1 := Lib.hid (And.intro m1 (And.intro (((HM2.out.alloc _).alloc _).kb k1 (show ¬ w.heap.size + 1 = w.heap.size by omega)) (Below.trans (below_alloc (below_alloc HBB.out _) _) (k1.below (B := w.heap.size) (by simp; omega) (fun k h => by have h2 : k = w.heap.size := h; omega))))); clear m1 k1)
                  | (at_lookup; refine wpList_lookT keyS rfl _ _ 46 3 rfl Try.underlying46 _ zeroI (w.heap.size + 1) (k + 1) (putT g2 o.f1 (.int .i64 ((nn : Int) + 1))) o.f1 (.int .i64 ((nn : Int) + 1)) rfl rfl HW2.out.1 HOK.out.2 (by rw [putT_same]; rfl) ?_)
                  | (at_lookup; refine wpList_lookT keyS rfl _ _ 46 3 rfl Try.underlying46 _ zeroI (w.heap.size + 1) k g2 o.f1 (.int .i64 nn) rfl rfl HW1.out.2.1 HOK.out.2 HN2.out ?_)
                  | (at_mapUpdate; refine wpList_storeT keyS rfl _ _ _ 46 3 rfl Try.underlying46 (w.heap.size + 1) k g2 o.f1 (.int .i64 ((nn : Int) + 1)) rfl rfl rfl HW1.out.2.1 HKM.out.1 HOK.out.2 ?_; intro w2 m2 k2; have z1 := k2.cell (a := ⟨wr.heap.size, 1, none⟩) (show ¬ wr.heap.size = w.heap.size + 1 by omega) y1; have HW2 := Lib.hid (And.intro m2 (And.intro (HW1.out.1.kb k2 (show ¬ w.heap.size = w.heap.size + 1 by omega)) (Below.trans HW1.out.2.2 (k2.below (B := w.heap.size) HW1.out.2.2.size (fun k h => by have h2 : k = w.heap.size + 1 := h; omega))))); clear m2 k2)
                  | go_in)
                go_ret
                exact ⟨by rw [HV.out]; rfl, HW2.out.2.2⟩
          · have hz : decide (0 < k) = true := decide_eq_true (by omega)
            have hk1 : k - 1 < l0.length := by omega
            obtain ⟨ad', ead, q0, q1, q2, q3, q4, q5, q6, q7⟩ := od_cells (Kd.C_below HC.out HB.out) hk1
            cases ead
            generalize hp : odAt l0 (k - 1) = p at *
            have HP := Lib.hid hp
            have z1 : (0 : Int) ≤ (k : Int) - 1 := by omega
            have z2 : (k : Int) - 1 < (l0.length : Int) := by omega
            have z6 : (1 : Int) ≤ (k : Int) := by omega
            have z3 : ((k : Int) - 1).toNat = k - 1 := by omega
            have z4 : IntKind.i64.wrap ((k : Int) - 1) = (k : Int) - 1 := IntWalk.i64_in _ (by omega)
            clear hp q0 q1 q2 q3 q5 q6 q7 hk1
            by_cases hle : p.f4 ≤ o.f4
            · have HLL := Lib.hid (show lastLe (l0.take k) o = true from by rw [← HO.out, lastLe_at hlt]; exact decide_eq_true (fun h => by rw [HP.out, HO.out]; exact hle))
              have z5 : decide (o.f4 < p.f4) = false := decide_eq_false (by omega)
              clear hle hk0
              go_wp2_with fail
              refine start_ (n := 18) (S := fun W => W.heap[wr.heap.size]? = some (.cells #[.int .i64 o.f0, .string o.f1, .string o.f2, .int .i64 o.f3, .int .i64 o.f4, .int .i64 o.f5, .int .i64 o.f6, .bool o.f7] 24 (0, 0)) ∧ Below wr.heap.size wr W) (ds := []) #[false, false, false, false, false, false, false, false, false, false, false, false, false, false, false, false, false, false] (by kernel_rfl) rfl rfl ⟨blk_drew (World.alloc_heap_new _ _), below_drew1 (below_alloc (Below.refl _ _) _)⟩ (fun hHeld => ?_)
              refine take_ (i := 0) (N := (some 22)) (v := ?_) (a' := ?_) #[true, false, false, false, false, false, false, false, false, false, false, false, false, false, false, false, false, false] rfl rfl (by kernel_rfl) (fun _ _ _ h => h) (Or.inl ⟨by rfl, ?_⟩) hHeld ?_ ?_
              rotate_left
              · rintro w' ⟨s, sb⟩
                obtain ⟨c0, c1, c2, c3, c4, c5, c6, c7⟩ := od_blk s
                have b4 := pw_cell_below sb q4
                clear s sb
                go_simp
                with_reducible rfl
              rotate_left
              · simp only [Act.put, List.setIfInBounds_toArray, List.set_cons_zero, List.set_cons_succ, i64_w, i32_w]
                rfl
              refine one_ (i := 1) (N := (some 23)) #[true, true, false, false, false, false, false, false, false, false, false, false, false, false, false, false, false, false] rfl rfl (by kernel_rfl) (by decide) (fun K hK => ?_)
              refine goes_ Try.func20 (by kernel_rfl) rfl #[odV o] (by rfl) rfl rfl (by (try simp only [List.map_toArray, List.map_cons, List.map_nil]); first | done | rfl) ?_
              with_reducible refine (HF.out _).mono ?_
              rintro e w' ⟨rfl, hb⟩
              refine ⟨_, rfl, ?_⟩
              refine hK.out _ _ ⟨blk_below hHeld.1 hb, below_step hHeld.2 hb⟩ (fun hHeld => ?_)
              clear hK K
              clear hb
              refine norm_ (a' := ?_) ?_ ?_
              rotate_left
              · show Act.put _ (some 23) _ = _
                simp only [Act.put, List.setIfInBounds_toArray, List.set_cons_zero, List.set_cons_succ, i64_w, i32_w]
                rfl
              refine pure_ (i := 2) (N := (some 24)) (v := ?_) (a' := ?_) #[true, true, true, false, false, false, false, false, false, false, false, false, false, false, false, false, false, false] rfl rfl (by kernel_rfl) (fun _ _ _ h => h) (Or.inl ⟨by rfl, ?_⟩) ?_ ?_
              rotate_left
              · intro w'
                go_simp
                with_reducible rfl
              rotate_left
              · simp only [Act.put, List.setIfInBounds_toArray, List.set_cons_zero, List.set_cons_succ, i64_w, i32_w]
                rfl
              refine pure_ (i := 3) (N := (some 25)) (v := ?_) (a' := ?_) #[true, true, true, true, false, false, false, false, false, false, false, false, false, false, false, false, false, false] rfl rfl (by kernel_rfl) (fun _ _ _ h => h) (Or.inl ⟨by rfl, ?_⟩) ?_ ?_
              rotate_left
              · intro w'
                go_simp
                with_reducible rfl
              rotate_left
              · simp only [Act.put, List.setIfInBounds_toArray, List.set_cons_zero, List.set_cons_succ, i64_w, i32_w]
                rfl
              refine pure_ (i := 4) (N := (some 26)) (v := ?_) (a' := ?_) #[true, true, true, true, true, false, false, false, false, false, false, false, false, false, false, false, false, false] rfl rfl (by kernel_rfl) (fun _ _ _ h => h) (Or.inl ⟨by rfl, ?_⟩) ?_ ?_
              rotate_left
              · intro w'
                go_simp
                with_reducible rfl
              rotate_left
              · simp only [Act.put, List.setIfInBounds_toArray, List.set_cons_zero, List.set_cons_succ, i64_w, i32_w]
                rfl
              refine pure_ (i := 5) (N := (some 27)) (v := ?_) (a' := ?_) #[true, true, true, true, true, true, false, false, false, false, false, false, false, false, false, false, false, false] rfl rfl (by kernel_rfl) (fun _ _ _ h => h) (Or.inl ⟨by rfl, ?_⟩) ?_ ?_
              rotate_left
              · intro w'
                go_simp
                with_reducible rfl
              rotate_left
              · simp only [Act.put, List.setIfInBounds_toArray, List.set_cons_zero, List.set_cons_succ, i64_w, i32_w]
                rfl
              refine pure_ (i := 6) (N := (some 28)) (v := ?_) (a' := ?_) #[true, true, true, true, true, true, true, false, false, false, false, false, false, false, false, false, false, false] rfl rfl (by kernel_rfl) (fun _ _ _ h => h) (Or.inl ⟨by rfl, ?_⟩) ?_ ?_
              rotate_left
              · intro w'
                go_simp
                with_reducible rfl
              rotate_left
              · simp only [Act.put, List.setIfInBounds_toArray, List.set_cons_zero, List.set_cons_succ, i64_w, i32_w]
                rfl
              refine pure_ (i := 7) (N := (some 29)) (v := ?_) (a' := ?_) #[true, true, true, true, true, true, true, true, false, false, false, false, false, false, false, false, false, false] rfl rfl (by kernel_rfl) (fun _ _ _ h => h) (Or.inl ⟨by rfl, ?_⟩) ?_ ?_
              rotate_left
              · intro w'
                go_simp
                with_reducible rfl
              rotate_left
              · simp only [Act.put, List.setIfInBounds_toArray, List.set_cons_zero, List.set_cons_succ, i64_w, i32_w]
                rfl
              refine take_ (i := 8) (N := (some 30)) (v := ?_) (a' := ?_) #[true, true, true, true, true, true, true, true, true, false, false, false, false, false, false, false, false, false] rfl rfl (by kernel_rfl) (fun _ _ _ h => h) (Or.inl ⟨by rfl, ?_⟩) hHeld ?_ ?_
              rotate_left
              · rintro w' ⟨s, sb⟩
                obtain ⟨c0, c1, c2, c3, c4, c5, c6, c7⟩ := od_blk s
                have b4 := pw_cell_below sb q4
                clear s sb
                go_simp
                with_reducible rfl
              rotate_left
              · simp only [Act.put, List.setIfInBounds_toArray, List.set_cons_zero, List.set_cons_succ, i64_w, i32_w]
                rfl
              refine pure_ (i := 9) (N := (some 31)) (v := ?_) (a' := ?_) #[true, true, true, true, true, true, true, true, true, true, false, false, false, false, false, false, false, false] rfl rfl (by kernel_rfl) (fun _ _ _ h => h) (Or.inl ⟨by rfl, ?_⟩) ?_ ?_
              rotate_left
              · intro w'
                go_simp
                with_reducible rfl
              rotate_left
              · simp only [Act.put, List.setIfInBounds_toArray, List.set_cons_zero, List.set_cons_succ, i64_w, i32_w]
                rfl
              refine pure_ (i := 10) (N := (some 32)) (v := ?_) (a' := ?_) #[true, true, true, true, true, true, true, true, true, true, true, false, false, false, false, false, false, false] rfl rfl (by kernel_rfl) (fun _ _ _ h => h) (Or.inl ⟨by rfl, ?_⟩) ?_ ?_
              rotate_left
              · intro w'
                go_simp
                with_reducible rfl
              rotate_left
              · simp only [Act.put, List.setIfInBounds_toArray, List.set_cons_zero, List.set_cons_succ, i64_w, i32_w]
                rfl
              refine pure_ (i := 11) (N := (some 33)) (v := ?_) (a' := ?_) #[true, true, true, true, true, true, true, true, true, true, true, true, false, false, false, false, false, false] rfl rfl (by kernel_rfl) (fun _ _ _ h => h) (Or.inl ⟨by rfl, ?_⟩) ?_ ?_
              rotate_left
              · intro w'
                go_simp
                with_reducible rfl
              rotate_left
              · simp only [Act.put, List.setIfInBounds_toArray, List.set_cons_zero, List.set_cons_succ, i64_w, i32_w]
                rfl
              refine pure_ (i := 12) (N := (some 34)) (v := ?_) (a' := ?_) #[true, true, true, true, true, true, true, true, true, true, true, true, true, false, false, false, false, false] rfl rfl (by kernel_rfl) (fun _ _ _ h => h) (Or.inl ⟨by rfl, ?_⟩) ?_ ?_
              rotate_left
              · intro w'
                go_simp
                with_reducible rfl
              rotate_left
              · simp only [Act.put, List.setIfInBounds_toArray, List.set_cons_zero, List.set_cons_succ, i64_w, i32_w]
                rfl
              refine pure_ (i := 13) (N := (some 35)) (v := ?_) (a' := ?_) #[true, true, true, true, true, true, true, true, true, true, true, true, true, true, false, false, false, false] rfl rfl (by kernel_rfl) (fun _ _ _ h => h) (Or.inl ⟨by rfl, ?_⟩) ?_ ?_
              rotate_left
              · intro w'
                go_simp
                with_reducible rfl
              rotate_left
              · simp only [Act.put, List.setIfInBounds_toArray, List.set_cons_zero, List.set_cons_succ, i64_w, i32_w]
                rfl
              refine take_ (i := 14) (N := (some 36)) (v := ?_) (a' := ?_) #[true, true, true, true, true, true, true, true, true, true, true, true, true, true, true, false, false, false] rfl rfl (by kernel_rfl) (fun _ _ _ h => h) (Or.inl ⟨by rfl, ?_⟩) hHeld ?_ ?_
              rotate_left
              · rintro w' ⟨s, sb⟩
                obtain ⟨c0, c1, c2, c3, c4, c5, c6, c7⟩ := od_blk s
                have b4 := pw_cell_below sb q4
                clear s sb
                go_simp
                with_reducible rfl
              rotate_left
              · simp only [Act.put, List.setIfInBounds_toArray, List.set_cons_zero, List.set_cons_succ, i64_w, i32_w]
                rfl
              refine pure_ (i := 15) (N := (some 37)) (v := ?_) (a' := ?_) #[true, true, true, true, true, true, true, true, true, true, true, true, true, true, true, true, false, false] rfl rfl (by kernel_rfl) (fun _ _ _ h => h) (Or.inl ⟨by rfl, ?_⟩) ?_ ?_
              rotate_left
              · intro w'
                go_simp
                with_reducible rfl
              rotate_left
              · simp only [Act.put, List.setIfInBounds_toArray, List.set_cons_zero, List.set_cons_succ, i64_w, i32_w]
                rfl
              refine pure_ (i := 16) (N := (some 38)) (v := ?_) (a' := ?_) #[true, true, true, true, true, true, true, true, true, true, true, true, true, true, true, true, true, false] rfl rfl (by kernel_rfl) (fun _ _ _ h => h) (Or.inl ⟨by rfl, ?_⟩) ?_ ?_
              rotate_left
              · intro w'
                go_simp
                with_reducible rfl
              rotate_left
              · simp only [Act.put, List.setIfInBounds_toArray, List.set_cons_zero, List.set_cons_succ, i64_w, i32_w]
                rfl
              refine pure_ (i := 17) (N := (some 39)) (v := ?_) (a' := ?_) #[true, true, true, true, true, true, true, true, true, true, true, true, true, true, true, true, true, true] rfl rfl (by kernel_rfl) (fun _ _ _ h => h) (Or.inl ⟨by rfl, ?_⟩) ?_ ?_
              rotate_left
              · intro w'
                go_simp
                with_reducible rfl
              rotate_left
              · simp only [Act.put, List.setIfInBounds_toArray, List.set_cons_zero, List.set_cons_succ, i64_w, i32_w]
                rfl
              refine done_ (by kernel_rfl) ?_
              clear z1 z2 z3 z4 z5 q4
              have HS := Lib.hid hHeld
              clear hHeld
              obtain ⟨s, sb⟩ := HS.out
              obtain ⟨v0, v1, v2, v3, v4, v5, v6, v7⟩ := od_blk s
              have hsz := (Array.getElem?_eq_some_iff.1 s).1
              clear s sb
              obtain ⟨hva, ⟨g1, hm1, hg1⟩, ⟨g2, hm2, hg2⟩, hbw⟩ := HI.out
              have hff := FOk.of HFF.out
              have hn1 := hg1 o.f0
              have hn2 := hg2 o.f1
              have h16 := few_of hva o.f1
              have HWR := hm2.lt
              have HM1 := Lib.hid (hm1.below HS.out.2 hm1.lt)
              have HM2 := Lib.hid (hm2.below HS.out.2 hm2.lt)
              have HG := Lib.hid (And.intro hg1 (And.intro hg2 hva))
              have okn : okI o.f0 := WalkArith.wf_i64 (by have := hff.f0; omega)
              have okp : okS o.f1 := by have := hff.f1; show _ ≤ maxLen; unfold maxLen; omega
              have HOK := Lib.hid (And.intro okn okp)
              have hkm : k < maxLen ∧ k + 1 < maxLen := by unfold maxLen; omega
              have HKM := Lib.hid hkm
              generalize hN : nums o.f1 [] (l0.take k) = nn at *
              have HN := Lib.hid hN
              have HN2 := Lib.hid hn2
              have HBB := Lib.hid (below_step HB.out HS.out.2)
              clear hva hm1 hg1 hm2 hg2 hbw hff okn okp hN hn2 hkm
              rcases hn1 with ⟨x, hx, hxn, hgx⟩ | ⟨hne, hgx⟩
              · have HX := Lib.hid (And.intro hx hxn)
                have HGX := Lib.hid hgx
                have h17 : ¬ (16 : Int) < (nn : Int) := by omega
                clear hx hxn hgx
                by_cases hsame : x.f1 = o.f1 ∧ x.f2 = o.f2
                · have HSA := Lib.hid hsame
                  clear hsame
                  go_wp2_with (first
                    | (at_lookup; refine wpList_lookokT keyI rfl _ _ 45 48 rfl Try.underlying45 _ zeroP w.heap.size k g1 o.f0 (pa o.f1 o.f2) true rfl rfl (HM1.out.alloc _) HOK.out.1 (by rw [HGX.out, HSA.out.1, HSA.out.2]; rfl) (by rw [HGX.out]; rfl) ?_)
                    | (at_lookup; refine wpList_lookT keyS rfl _ _ 46 3 rfl Try.underlying46 _ zeroI (w.heap.size + 1) k g2 o.f1 (.int .i64 nn) rfl rfl ((HM2.out.alloc _).alloc _) HOK.out.2 HN2.out ?_)
                    | go_in)
                  go_roundw
                  case rel =>
                    refine ⟨k + 1, by omega, by go_num, validFrom_next hlt HG.out.2.2 (by rw [HO.out]; exact okNext_old HG.out.2.2 HFF.out HLL.out HX.out.1 HX.out.2 HSA.out), ⟨g1, ((HM1.out.alloc _).alloc _).mono (by omega), ?_⟩, ⟨g2, ((HM2.out.alloc _).alloc _).mono (by omega), ?_⟩, below_alloc (below_alloc HBB.out _) _⟩
                    · rw [take_odAt hlt, HO.out]
                      exact HG.out.1.keep HX.out.1 HX.out.2
                    · rw [take_odAt hlt, HO.out]
                      exact HG.out.2.1.keep (newIn_false HX.out.1 HX.out.2)
                  case measure => simp [intOf]; omega
                · have HV := Lib.hid (valid_stop hlt (by rw [HO.out]; exact okNext_diff HX.out.1 HX.out.2 hsame))
                  by_cases h1 : x.f1 = o.f1
                  · have ne : ¬ x.f2.toList = o.f2.toList := fun h => hsame ⟨h1, str_eq.1 h⟩
                    have H1 := Lib.hid h1
                    clear hsame h1
                    go_wp2_with (first
                      | (at_lookup; refine wpList_lookokT keyI rfl _ _ 45 48 rfl Try.underlying45 _ zeroP w.heap.size k g1 o.f0 (pa o.f1 x.f2) true rfl rfl (HM1.out.alloc _) HOK.out.1 (by rw [HGX.out, H1.out]; rfl) (by rw [HGX.out]; rfl) ?_)
                      | go_in)
                    go_ret
                    exact ⟨by rw [HV.out]; rfl, below_alloc (below_alloc HBB.out _) _⟩
                  · have ne : ¬ x.f1.toList = o.f1.toList := fun h => h1 (str_eq.1 h)
                    clear hsame h1
                    go_wp2_with (first
                      | (at_lookup; refine wpList_lookokT keyI rfl _ _ 45 48 rfl Try.underlying45 _ zeroP w.heap.size k g1 o.f0 (pa x.f1 x.f2) true rfl rfl (HM1.out.alloc _) HOK.out.1 (by rw [HGX.out]; rfl) (by rw [HGX.out]; rfl) ?_)
                      | go_in)
                    go_ret
                    exact ⟨by rw [HV.out]; rfl, below_alloc (below_alloc HBB.out _) _⟩
              · have HNE := Lib.hid hne
                have HGX := Lib.hid hgx
                have HNX := Lib.hid (newIn_iff.2 hne)
                clear hne hgx
                by_cases h17 : nn + 1 ≤ 16
                · have h18 : ¬ (16 : Int) < (nn : Int) + 1 := by omega
                  go_wp2_with (first
                    | (at_lookup; refine wpList_lookokT keyI rfl _ _ 45 48 rfl Try.underlying45 _ zeroP w.heap.size k g1 o.f0 (.agg #[.string ⟨#[]⟩, .string ⟨#[]⟩]) false rfl rfl (HM1.out.alloc _) HOK.out.1 (by rw [HGX.out]; rfl) (by rw [HGX.out]; rfl) ?_)
                    | (at_mapUpdate; refine wpList_storeT keyI rfl _ _ _ 45 48 rfl Try.underlying45 w.heap.size k g1 o.f0 (pa o.f1 o.f2) rfl rfl rfl ((HM1.out.alloc _).alloc _) HKM.out.1 HOK.out.1 ?_; intro w1 m1 k1; have y1 := k1.cell (a := ⟨wr.heap.size, 1, none⟩) (show ¬ wr.heap.size = w.heap.size by omega) (pw_cell_below (below_alloc (below_alloc (Below.refl _ _) _) _) v1); have HW1 := Lib.hid (And.intro m1 (And.intro (((HM2.out.alloc _).alloc _).kb k1 (show ¬ w.heap.size + 1 = w.heap.size by omega)) (Below.trans (below_alloc (below_alloc HBB.out _) _) (k1.below (B := w.heap.size) (by simp; omega) (fun k h => by have h2 : k = w.heap.size := h; omega))))); clear m1 k1)
                    | (at_lookup; refine wpList_lookT keyS rfl _ _ 46 3 rfl Try.underlying46 _ zeroI (w.heap.size + 1) (k + 1) (putT g2 o.f1 (.int .i64 ((nn : Int) + 1))) o.f1 (.int .i64 ((nn : Int) + 1)) rfl rfl HW2.out.1 HOK.out.2 (by rw [putT_same]; rfl) ?_)
                    | (at_lookup; refine wpList_lookT keyS rfl _ _ 46 3 rfl Try.underlying46 _ zeroI (w.heap.size + 1) k g2 o.f1 (.int .i64 nn) rfl rfl HW1.out.2.1 HOK.out.2 HN2.out ?_)
                    | (at_mapUpdate; refine wpList_storeT keyS rfl _ _ _ 46 3 rfl Try.underlying46 (w.heap.size + 1) k g2 o.f1 (.int .i64 ((nn : Int) + 1)) rfl rfl rfl HW1.out.2.1 HKM.out.1 HOK.out.2 ?_; intro w2 m2 k2; have z1 := k2.cell (a := ⟨wr.heap.size, 1, none⟩) (show ¬ wr.heap.size = w.heap.size + 1 by omega) y1; have HW2 := Lib.hid (And.intro m2 (And.intro (HW1.out.1.kb k2 (show ¬ w.heap.size = w.heap.size + 1 by omega)) (Below.trans HW1.out.2.2 (k2.below (B := w.heap.size) HW1.out.2.2.size (fun k h => by have h2 : k = w.heap.size + 1 := h; omega))))); clear m2 k2)
                    | go_in)
                  go_roundw
                  case rel =>
                    refine ⟨k + 1, by omega, by go_num, validFrom_next hlt HG.out.2.2 (by rw [HO.out, okNext_new HFF.out HLL.out HNE.out, HN.out]; exact decide_eq_true h17), ⟨_, HW2.out.2.1, ?_⟩, ⟨_, HW2.out.1, ?_⟩, HW2.out.2.2⟩
                    · rw [take_odAt hlt, HO.out]
                      exact HG.out.1.put
                    · rw [take_odAt hlt, HO.out, ← HN.out]
                      exact HG.out.2.1.put HNX.out
                  case measure => simp [intOf]; omega
                · have h18 : (16 : Int) < (nn : Int) + 1 := by omega
                  have HV := Lib.hid (valid_stop hlt (by rw [HO.out, okNext_new HFF.out HLL.out HNE.out, HN.out]; exact decide_eq_false h17))
                  go_wp2_with (first
                    | (at_lookup; refine wpList_lookokT keyI rfl _ _ 45 48 rfl Try.underlying45 _ zeroP w.heap.size k g1 o.f0 (.agg #[.string ⟨#[]⟩, .string ⟨#[]⟩]) false rfl rfl (HM1.out.alloc _) HOK.out.1 (by rw [HGX.out]; rfl) (by rw [HGX.out]; rfl) ?_)
                    | (at_mapUpdate; refine wpList_storeT keyI rfl _ _ _ 45 48 rfl Try.underlying45 w.heap.size k g1 o.f0 (pa o.f1 o.f2) rfl rfl rfl ((HM1.out.alloc _).alloc _) HKM.out.1 HOK.out.1 ?_; intro w1 m1 k1; have y1 := k1.cell (a := ⟨wr.heap.size, 1, none⟩) (show ¬ wr.heap.size = w.heap.size by omega) (pw_cell_below (below_alloc (below_alloc (Below.refl _ _) _) _) v1); have HW1 := Lib.hid (And.intro m1 (And.intro (((HM2.out.alloc _).alloc _).kb k1 (show ¬ w.heap.size + 1 = w.heap.size by omega)) (Below.trans (below_alloc (below_alloc HBB.out _) _) (k1.below (B := w.heap.size) (by simp; omega) (fun k h => by have h2 : k = w.heap.size := h; omega))))); clear m1 k1)
                    | (at_lookup; refine wpList_lookT keyS rfl _ _ 46 3 rfl Try.underlying46 _ zeroI (w.heap.size + 1) (k + 1) (putT g2 o.f1 (.int .i64 ((nn : Int) + 1))) o.f1 (.int .i64 ((nn : Int) + 1)) rfl rfl HW2.out.1 HOK.out.2 (by rw [putT_same]; rfl) ?_)
                    | (at_lookup; refine wpList_lookT keyS rfl _ _ 46 3 rfl Try.underlying46 _ zeroI (w.heap.size + 1) k g2 o.f1 (.int .i64 nn) rfl rfl HW1.out.2.1 HOK.out.2 HN2.out ?_)
                    | (at_mapUpdate; refine wpList_storeT keyS rfl _ _ _ 46 3 rfl Try.underlying46 (w.heap.size + 1) k g2 o.f1 (.int .i64 ((nn : Int) + 1)) rfl rfl rfl HW1.out.2.1 HKM.out.1 HOK.out.2 ?_; intro w2 m2 k2; have z1 := k2.cell (a := ⟨wr.heap.size, 1, none⟩) (show ¬ wr.heap.size = w.heap.size + 1 by omega) y1; have HW2 := Lib.hid (And.intro m2 (And.intro (HW1.out.1.kb k2 (show ¬ w.heap.size = w.heap.size + 1 by omega)) (Below.trans HW1.out.2.2 (k2.below (B := w.heap.size) HW1.out.2.2.size (fun k h => by have h2 : k = w.heap.size + 1 := h; omega))))); clear m2 k2)
                    | go_in)
                  go_ret
                  exact ⟨by rw [HV.out]; rfl, HW2.out.2.2⟩
            · have HV := Lib.hid (valid_stop hlt (by rw [HO.out]; unfold okNext; rw [show lastLe (l0.take k) o = false from by rw [← HO.out, lastLe_at hlt]; exact decide_eq_false (fun h => by rw [HP.out, HO.out] at h; exact hle (h (by omega)))]; simp))
              have z5 : decide (o.f4 < p.f4) = true := decide_eq_true (by omega)
              clear hle hk0
              go_wp2_with fail
              refine start_ (n := 18) (S := fun W => W.heap[wr.heap.size]? = some (.cells #[.int .i64 o.f0, .string o.f1, .string o.f2, .int .i64 o.f3, .int .i64 o.f4, .int .i64 o.f5, .int .i64 o.f6, .bool o.f7] 24 (0, 0)) ∧ Below wr.heap.size wr W) (ds := []) #[false, false, false, false, false, false, false, false, false, false, false, false, false, false, false, false, false, false] (by kernel_rfl) rfl rfl ⟨blk_drew (World.alloc_heap_new _ _), below_drew1 (below_alloc (Below.refl _ _) _)⟩ (fun hHeld => ?_)
              refine take_ (i := 0) (N := (some 22)) (v := ?_) (a' := ?_) #[true, false, false, false, false, false, false, false, false, false, false, false, false, false, false, false, false, false] rfl rfl (by kernel_rfl) (fun _ _ _ h => h) (Or.inl ⟨by rfl, ?_⟩) hHeld ?_ ?_
              rotate_left
              · rintro w' ⟨s, sb⟩
                obtain ⟨c0, c1, c2, c3, c4, c5, c6, c7⟩ := od_blk s
                have b4 := pw_cell_below sb q4
                clear s sb
                go_simp
                with_reducible rfl
              rotate_left
              · simp only [Act.put, List.setIfInBounds_toArray, List.set_cons_zero, List.set_cons_succ, i64_w, i32_w]
                rfl
              refine one_ (i := 1) (N := (some 23)) #[true, true, false, false, false, false, false, false, false, false, false, false, false, false, false, false, false, false] rfl rfl (by kernel_rfl) (by decide) (fun K hK => ?_)
              refine goes_ Try.func20 (by kernel_rfl) rfl #[odV o] (by rfl) rfl rfl (by (try simp only [List.map_toArray, List.map_cons, List.map_nil]); first | done | rfl) ?_
              with_reducible refine (HF.out _).mono ?_
              rintro e w' ⟨rfl, hb⟩
              refine ⟨_, rfl, ?_⟩
              refine hK.out _ _ ⟨blk_below hHeld.1 hb, below_step hHeld.2 hb⟩ (fun hHeld => ?_)
              clear hK K
              clear hb
              refine norm_ (a' := ?_) ?_ ?_
              rotate_left
              · show Act.put _ (some 23) _ = _
                simp only [Act.put, List.setIfInBounds_toArray, List.set_cons_zero, List.set_cons_succ, i64_w, i32_w]
                rfl
              refine pure_ (i := 2) (N := (some 24)) (v := ?_) (a' := ?_) #[true, true, true, false, false, false, false, false, false, false, false, false, false, false, false, false, false, false] rfl rfl (by kernel_rfl) (fun _ _ _ h => h) (Or.inl ⟨by rfl, ?_⟩) ?_ ?_
              rotate_left
              · intro w'
                go_simp
                with_reducible rfl
              rotate_left
              · simp only [Act.put, List.setIfInBounds_toArray, List.set_cons_zero, List.set_cons_succ, i64_w, i32_w]
                rfl
              refine pure_ (i := 3) (N := (some 25)) (v := ?_) (a' := ?_) #[true, true, true, true, false, false, false, false, false, false, false, false, false, false, false, false, false, false] rfl rfl (by kernel_rfl) (fun _ _ _ h => h) (Or.inl ⟨by rfl, ?_⟩) ?_ ?_
              rotate_left
              · intro w'
                go_simp
                with_reducible rfl
              rotate_left
              · simp only [Act.put, List.setIfInBounds_toArray, List.set_cons_zero, List.set_cons_succ, i64_w, i32_w]
                rfl
              refine pure_ (i := 4) (N := (some 26)) (v := ?_) (a' := ?_) #[true, true, true, true, true, false, false, false, false, false, false, false, false, false, false, false, false, false] rfl rfl (by kernel_rfl) (fun _ _ _ h => h) (Or.inl ⟨by rfl, ?_⟩) ?_ ?_
              rotate_left
              · intro w'
                go_simp
                with_reducible rfl
              rotate_left
              · simp only [Act.put, List.setIfInBounds_toArray, List.set_cons_zero, List.set_cons_succ, i64_w, i32_w]
                rfl
              refine pure_ (i := 5) (N := (some 27)) (v := ?_) (a' := ?_) #[true, true, true, true, true, true, false, false, false, false, false, false, false, false, false, false, false, false] rfl rfl (by kernel_rfl) (fun _ _ _ h => h) (Or.inl ⟨by rfl, ?_⟩) ?_ ?_
              rotate_left
              · intro w'
                go_simp
                with_reducible rfl
              rotate_left
              · simp only [Act.put, List.setIfInBounds_toArray, List.set_cons_zero, List.set_cons_succ, i64_w, i32_w]
                rfl
              refine pure_ (i := 6) (N := (some 28)) (v := ?_) (a' := ?_) #[true, true, true, true, true, true, true, false, false, false, false, false, false, false, false, false, false, false] rfl rfl (by kernel_rfl) (fun _ _ _ h => h) (Or.inl ⟨by rfl, ?_⟩) ?_ ?_
              rotate_left
              · intro w'
                go_simp
                with_reducible rfl
              rotate_left
              · simp only [Act.put, List.setIfInBounds_toArray, List.set_cons_zero, List.set_cons_succ, i64_w, i32_w]
                rfl
              refine pure_ (i := 7) (N := (some 29)) (v := ?_) (a' := ?_) #[true, true, true, true, true, true, true, true, false, false, false, false, false, false, false, false, false, false] rfl rfl (by kernel_rfl) (fun _ _ _ h => h) (Or.inl ⟨by rfl, ?_⟩) ?_ ?_
              rotate_left
              · intro w'
                go_simp
                with_reducible rfl
              rotate_left
              · simp only [Act.put, List.setIfInBounds_toArray, List.set_cons_zero, List.set_cons_succ, i64_w, i32_w]
                rfl
              refine take_ (i := 8) (N := (some 30)) (v := ?_) (a' := ?_) #[true, true, true, true, true, true, true, true, true, false, false, false, false, false, false, false, false, false] rfl rfl (by kernel_rfl) (fun _ _ _ h => h) (Or.inl ⟨by rfl, ?_⟩) hHeld ?_ ?_
              rotate_left
              · rintro w' ⟨s, sb⟩
                obtain ⟨c0, c1, c2, c3, c4, c5, c6, c7⟩ := od_blk s
                have b4 := pw_cell_below sb q4
                clear s sb
                go_simp
                with_reducible rfl
              rotate_left
              · simp only [Act.put, List.setIfInBounds_toArray, List.set_cons_zero, List.set_cons_succ, i64_w, i32_w]
                rfl
              refine pure_ (i := 9) (N := (some 31)) (v := ?_) (a' := ?_) #[true, true, true, true, true, true, true, true, true, true, false, false, false, false, false, false, false, false] rfl rfl (by kernel_rfl) (fun _ _ _ h => h) (Or.inl ⟨by rfl, ?_⟩) ?_ ?_
              rotate_left
              · intro w'
                go_simp
                with_reducible rfl
              rotate_left
              · simp only [Act.put, List.setIfInBounds_toArray, List.set_cons_zero, List.set_cons_succ, i64_w, i32_w]
                rfl
              refine pure_ (i := 10) (N := (some 32)) (v := ?_) (a' := ?_) #[true, true, true, true, true, true, true, true, true, true, true, false, false, false, false, false, false, false] rfl rfl (by kernel_rfl) (fun _ _ _ h => h) (Or.inl ⟨by rfl, ?_⟩) ?_ ?_
              rotate_left
              · intro w'
                go_simp
                with_reducible rfl
              rotate_left
              · simp only [Act.put, List.setIfInBounds_toArray, List.set_cons_zero, List.set_cons_succ, i64_w, i32_w]
                rfl
              refine pure_ (i := 11) (N := (some 33)) (v := ?_) (a' := ?_) #[true, true, true, true, true, true, true, true, true, true, true, true, false, false, false, false, false, false] rfl rfl (by kernel_rfl) (fun _ _ _ h => h) (Or.inl ⟨by rfl, ?_⟩) ?_ ?_
              rotate_left
              · intro w'
                go_simp
                with_reducible rfl
              rotate_left
              · simp only [Act.put, List.setIfInBounds_toArray, List.set_cons_zero, List.set_cons_succ, i64_w, i32_w]
                rfl
              refine pure_ (i := 12) (N := (some 34)) (v := ?_) (a' := ?_) #[true, true, true, true, true, true, true, true, true, true, true, true, true, false, false, false, false, false] rfl rfl (by kernel_rfl) (fun _ _ _ h => h) (Or.inl ⟨by rfl, ?_⟩) ?_ ?_
              rotate_left
              · intro w'
                go_simp
                with_reducible rfl
              rotate_left
              · simp only [Act.put, List.setIfInBounds_toArray, List.set_cons_zero, List.set_cons_succ, i64_w, i32_w]
                rfl
              refine pure_ (i := 13) (N := (some 35)) (v := ?_) (a' := ?_) #[true, true, true, true, true, true, true, true, true, true, true, true, true, true, false, false, false, false] rfl rfl (by kernel_rfl) (fun _ _ _ h => h) (Or.inl ⟨by rfl, ?_⟩) ?_ ?_
              rotate_left
              · intro w'
                go_simp
                with_reducible rfl
              rotate_left
              · simp only [Act.put, List.setIfInBounds_toArray, List.set_cons_zero, List.set_cons_succ, i64_w, i32_w]
                rfl
              refine take_ (i := 14) (N := (some 36)) (v := ?_) (a' := ?_) #[true, true, true, true, true, true, true, true, true, true, true, true, true, true, true, false, false, false] rfl rfl (by kernel_rfl) (fun _ _ _ h => h) (Or.inl ⟨by rfl, ?_⟩) hHeld ?_ ?_
              rotate_left
              · rintro w' ⟨s, sb⟩
                obtain ⟨c0, c1, c2, c3, c4, c5, c6, c7⟩ := od_blk s
                have b4 := pw_cell_below sb q4
                clear s sb
                go_simp
                with_reducible rfl
              rotate_left
              · simp only [Act.put, List.setIfInBounds_toArray, List.set_cons_zero, List.set_cons_succ, i64_w, i32_w]
                rfl
              refine pure_ (i := 15) (N := (some 37)) (v := ?_) (a' := ?_) #[true, true, true, true, true, true, true, true, true, true, true, true, true, true, true, true, false, false] rfl rfl (by kernel_rfl) (fun _ _ _ h => h) (Or.inl ⟨by rfl, ?_⟩) ?_ ?_
              rotate_left
              · intro w'
                go_simp
                with_reducible rfl
              rotate_left
              · simp only [Act.put, List.setIfInBounds_toArray, List.set_cons_zero, List.set_cons_succ, i64_w, i32_w]
                rfl
              refine pure_ (i := 16) (N := (some 38)) (v := ?_) (a' := ?_) #[true, true, true, true, true, true, true, true, true, true, true, true, true, true, true, true, true, false] rfl rfl (by kernel_rfl) (fun _ _ _ h => h) (Or.inl ⟨by rfl, ?_⟩) ?_ ?_
              rotate_left
              · intro w'
                go_simp
                with_reducible rfl
              rotate_left
              · simp only [Act.put, List.setIfInBounds_toArray, List.set_cons_zero, List.set_cons_succ, i64_w, i32_w]
                rfl
              refine pure_ (i := 17) (N := (some 39)) (v := ?_) (a' := ?_) #[true, true, true, true, true, true, true, true, true, true, true, true, true, true, true, true, true, true] rfl rfl (by kernel_rfl) (fun _ _ _ h => h) (Or.inl ⟨by rfl, ?_⟩) ?_ ?_
              rotate_left
              · intro w'
                go_simp
                with_reducible rfl
              rotate_left
              · simp only [Act.put, List.setIfInBounds_toArray, List.set_cons_zero, List.set_cons_succ, i64_w, i32_w]
                rfl
              refine done_ (by kernel_rfl) ?_
              clear z1 z2 z3 z4 z5 q4
              go_wp2_with fail
              go_ret
              exact ⟨by rw [HV.out]; rfl, below_step HB.out hHeld.2⟩
      · obtain rfl : k = l0.length := by omega
        have HV := Lib.hid (show valid l0 = true from by unfold valid; rw [decide_eq_true hlen, ← List.take_length (l := l0)]; exact hI.1)
        have HB := Lib.hid hI.2.2.2
        clear hI
        go_wp2
        go_ret
        exact ⟨by rw [HV.out]; rfl, HB.out⟩
  · have HV := Lib.hid (show valid l0 = false from by unfold valid; rw [decide_eq_false hlen]; rfl)
    go_enter Try.func14, Try.ntmps14
    go_wp2
    go_ret
    exact ⟨by rw [HV.out]; rfl, Below.refl _ _⟩
end Go.Proofs.Ytgbcihbnaecejaa.Q

namespace Go.Proofs.YtgbcihbnaecejaaW.PrintLast
open Go Go.RowKit Go.Shelf Go.Lib Go.Sort Go.Proofs.YtgbcihbnaecejaaW.PrintWords
structure Flat {α : Type} (d : Kd α) (enc : α → List Value) : Prop where
  m : ∀ {w : World} {base : Nat} {ok : Nat → Prop} {x : α} {cs : List Value}, d.M w base ok x cs ↔ cs = enc x
  len : ∀ x, (enc x).length = d.sz
  one : ∀ x, ∀ v ∈ enc x, v.oneCell' = true
section
variable {α : Type} {d : Kd α} {enc : α → List Value}
theorem flat_inner (hf : Flat d enc) {w : World} {base : Nat} {ok : Nat → Prop} : ∀ (xs : List α) (cs : List Value), Reps (d.M w base ok) d.sz xs cs ↔ cs = xs.flatMap enc := by
  intro xs
  have mk : Reps (d.M w base ok) d.sz xs (xs.flatMap enc) := by
    induction xs with
    | nil => exact Reps.none _ _
    | cons x xs ih =>
      refine ⟨by simp only [List.flatMap_cons, List.length_append, List.length_cons, hf.len, ih.1, Nat.succ_mul]; omega, fun j p hp => ?_⟩
      cases j with
      | zero =>
        simp at hp
        subst hp
        rw [Nat.zero_mul, List.drop_zero, List.flatMap_cons, List.take_left' (hf.len x)]
        exact hf.m.2 rfl
      | succ j =>
        have h2 := ih.2 j p (by simpa using hp)
        rw [List.flatMap_cons, Nat.succ_mul, show j * d.sz + d.sz = (enc x).length + j * d.sz by rw [hf.len]; omega, ← List.drop_drop, List.drop_left' rfl]
        exact h2
  refine fun cs => ⟨fun h => ?_, fun h => h ▸ mk⟩
  apply List.ext_getElem?
  intro q
  by_cases hsz : d.sz = 0
  · have h1 : cs.length = 0 := by rw [h.1, hsz, Nat.mul_zero]
    have h2 : (xs.flatMap enc).length = 0 := by rw [mk.1, hsz, Nat.mul_zero]
    rw [List.eq_nil_of_length_eq_zero h1, List.eq_nil_of_length_eq_zero h2]
  · by_cases hq : q < xs.length * d.sz
    · have hj : q / d.sz < xs.length := (Nat.div_lt_iff_lt_mul (by omega)).2 hq
      have a := hf.m.1 (h.2 (q / d.sz) _ (List.getElem?_eq_getElem hj))
      have b := hf.m.1 (mk.2 (q / d.sz) _ (List.getElem?_eq_getElem hj))
      have hm : q % d.sz < d.sz := Nat.mod_lt _ (by omega)
      have e : q / d.sz * d.sz + q % d.sz = q := by rw [Nat.mul_comm]; exact Nat.div_add_mod q d.sz
      have a2 := congrArg (fun l : List Value => l[q % d.sz]?) (a.trans b.symm)
      simp only [List.getElem?_take_of_lt hm, List.getElem?_drop, e] at a2
      exact a2
    · rw [List.getElem?_eq_none (by rw [h.1]; omega), List.getElem?_eq_none (by rw [mk.1]; omega)]
theorem R_flat (hf : Flat d enc) {e : Nat} {w : World} {base : Nat} {ok : Nat → Prop} {v : Value} {xs : List α} : d.R e w base ok v xs ↔ (∀ k, v.ownBlock = some k → ok k) ∧ w.ownsRow base e d.sz v xs.length (xs.flatMap enc) := by
  constructor
  · rintro ⟨h0, inner, ho, hr⟩
    obtain rfl := (flat_inner hf xs inner).1 hr
    exact ⟨h0, ho⟩
  · rintro ⟨h0, ho⟩
    exact ⟨h0, _, ho, (flat_inner hf xs _).2 rfl⟩
theorem flat_flatK [Inhabited α] {k : Nat} (hl : ∀ x, (enc x).length = k) (xs : List α) : flatK enc k xs.toArray = (xs.flatMap enc).toArray := by
  have hlen : ∀ ys : List α, (ys.flatMap enc).length = ys.length * k := by
    intro ys
    induction ys with
    | nil => simp
    | cons y ys ih => simp only [List.flatMap_cons, List.length_append, List.length_cons, hl, ih, Nat.succ_mul]; omega
  have key : ∀ (ys : List α) (q : Nat), q < ys.length * k → (ys.flatMap enc)[q]? = some ((enc (ys.toArray[q / k]!))[q % k]!) := by
    intro ys
    induction ys with
    | nil => intro q hq; simp at hq
    | cons y ys ih =>
      intro q hq
      have hk : 0 < k := by
        rcases Nat.eq_zero_or_pos k with h | h
        · rw [h, Nat.mul_zero] at hq; omega
        · exact h
      rw [List.flatMap_cons]
      by_cases hqk : q < k
      · rw [List.getElem?_append_left (by rw [hl]; exact hqk), Nat.div_eq_of_lt hqk, Nat.mod_eq_of_lt hqk]
        have : q < (enc y).length := by rw [hl]; exact hqk
        simp [List.getElem?_eq_getElem this, getElem!_pos (enc y) q this]
      · have h2 : q - k < ys.length * k := by
          rw [List.length_cons, Nat.succ_mul] at hq
          omega
        rw [List.getElem?_append_right (by rw [hl]; omega), hl, ih _ h2]
        have e1 : q / k = (q - k) / k + 1 := by
          rw [← Nat.add_div_right _ hk, Nat.sub_add_cancel (by omega)]
        have e2 : q % k = (q - k) % k := by
          conv => lhs; rw [← Nat.sub_add_cancel (show k ≤ q by omega), Nat.add_mod_right]
        rw [e1, e2]
        have h3 : (q - k) / k < ys.length := (Nat.div_lt_iff_lt_mul hk).2 h2
        congr 2
        simp [getElem!_pos, h3]
  apply Array.ext_getElem?
  intro q
  by_cases hq : q < xs.length * k
  · have h1 := key xs q hq
    have h2 : (xs.flatMap enc).toArray[q]? = (xs.flatMap enc)[q]? := by simp
    rw [h2, h1]
    simp [flatK, hq]
  · have h2 : (xs.flatMap enc).toArray[q]? = (xs.flatMap enc)[q]? := by simp
    rw [h2, Array.getElem?_eq_none (by simp [flatK]; omega), List.getElem?_eq_none (by rw [hlen]; omega)]
theorem holds_id {w : World} {g : Nat} {cur : Array Value} {e : TypeId} {cs : List Value} (hb : w.heap[g]? = some (.cells cur e (0, 0))) (ht : cur.toList.take cs.length = cs) : Holds id w g 0 cs.toArray := by
  intro j hj
  have hj' : j < cs.length := by simpa using hj
  refine ⟨?_, by simp [World.frozen?, hb]⟩
  have h1 : (cur.toList.take cs.length)[j]? = cs[j]? := by rw [ht]
  rw [List.getElem?_take_of_lt hj'] at h1
  simp only [World.cell?, hb, Nat.zero_add]
  simp only [Option.isSome_none, Bool.false_eq_true, if_false]
  rw [← Array.getElem?_toList, h1]
  simp [hj']
theorem heap_sorted_id {w : World} {g n : Nat} {os : Array Obj} {cur : Array Value} {e : TypeId} {fr : Nat × Nat} (d : Array Value) (hb : w.heap[g]? = some (.cells cur e fr)) :
    (grow (putRow id (Sort.ahead w n) g 0 d) os).heap[g]? = some (.cells (putCells id 0 d cur) e fr) := by
  have hg : g < w.heap.size := (Array.getElem?_eq_some_iff.1 hb).1
  rw [heap_grow_old _ _ (by simpa using hg)]
  simp [putRow, mapBlock, Sort.ahead, Array.getElem?_modify, hb, onCells]
theorem grownBy_sorted_id {w : World} {g n : Nat} {os : Array Obj} (d : Array Value) : w.grownBy (grow (putRow id (Sort.ahead w n) g 0 d) os) (some g) := by
  refine ⟨rfl, rfl, rfl, by simp, fun k hk hne => ?_⟩
  rw [heap_grow_old _ _ (by simpa using hk)]
  have : g ≠ k := fun e => hne (by rw [e])
  simp [putRow, mapBlock, Sort.ahead, Array.getElem?_modify, this]
theorem take_putCells_id (cur : Array Value) (ts : List Value) (h : ts.length ≤ cur.size) : (putCells id 0 ts.toArray cur).toList.take ts.length = ts := by
  apply List.ext_getElem?
  intro j
  by_cases hj : j < ts.length
  · rw [List.getElem?_take_of_lt hj, Array.getElem?_toList]
    simp [putCells, hj, show j < cur.size by omega]
  · rw [List.getElem?_take_eq_none (by omega), List.getElem?_eq_none (by omega)]
def sortd [Inhabited α] (cf : α → α → Int) (xs : List α) : List α := (pdq (ltOf cf) xs.toArray 0 xs.length (Lib.bitLen xs.length) true true).toList
theorem sortd_size [Inhabited α] {cf : α → α → Int} (hO : SWO (ltOf cf)) (xs : List α) : (sortd cf xs).Perm xs ∧ ∀ i j, i < j → j < xs.length → ltOf cf (sortd cf xs)[j]! (sortd cf xs)[i]! = false := by
  have h := pdq_sorts (ltOf cf) hO xs.toArray 0 xs.length (Lib.bitLen xs.length) true true (Nat.zero_le _) (Nat.le_of_eq (by rw [List.size_toArray])) (Or.inl rfl)
  obtain ⟨⟨h1, _, h3⟩, h4⟩ := h
  constructor
  · have e1 : ((pdq (ltOf cf) xs.toArray 0 xs.length (Lib.bitLen xs.length) true true).extract 0 xs.length) = pdq (ltOf cf) xs.toArray 0 xs.length (Lib.bitLen xs.length) true true := by
      have : xs.length = (pdq (ltOf cf) xs.toArray 0 xs.length (Lib.bitLen xs.length) true true).size := by rw [h1]; simp
      conv => lhs; arg 3; rw [this]
      exact Array.extract_size
    rw [e1] at h3
    simpa [sortd] using h3
  · intro i j hij hj
    have := h4 i j (Nat.zero_le _) hij hj
    unfold sortd
    rw [Array.getElem!_toList, Array.getElem!_toList]
    exact this
variable {P : Program} {ρ : Ren}
theorem R_sorted [Inhabited α] (hf : Flat d enc) (L : SlLaysF0.n6 P ρ) (aE : ∀ w, (isAgg (ρ.t 24)).run P w = .ok true w) (zE : ∀ w, (Go.sizeOf (ρ.t 24)).run P w = .ok d.sz w) (cf : α → α → Int) (hO : SWO (ltOf cf)) (g : Nat) (cb : Array Value)
    (eg : ∀ args w, (callFunc g args).run P w = .ok (.enter g args) w) {e : Nat} {w : World} {base : Nat} {ok : Nat → Prop} {v : Value} {xs : List α} (HO : d.R e w base ok v xs)
    (hcmp : ∀ blk, v.ownBlock = some blk → CmpLays P g cb enc d.sz cf blk 0 xs.length w) (hlen : xs.length < 4611686018427387904) :
    Calls P (ρ.f 6) #[v, .func (.func g) #[] cb] w fun e' w' => e' = .returned (.tuple #[]) ∧ d.R e w' base ok v (sortd cf xs) ∧ w.grownBy w' v.ownBlock := by
  have hp := (sortd_size hO xs).1
  obtain ⟨h0, ho⟩ := (R_flat hf).1 HO
  rcases ho.2 with ⟨rfl, hn⟩ | ⟨b, cap, cur, rfl, hbase, hb, hnc, hcm, hcs, htk⟩
  · obtain rfl : xs = [] := List.eq_nil_of_length_eq_zero hn
    refine (AnyF.slices_SortFunc_none L none 0 _ w).mono ?_
    rintro e' w' ⟨rfl, rfl⟩
    have : sortd cf ([] : List α) = [] := List.eq_nil_of_length_eq_zero (by simpa using hp.length_eq)
    rw [this]
    exact ⟨rfl, HO, World.grownBy.refl _ _⟩
  · have hlc : (xs.flatMap enc).length = xs.length * d.sz := ho.1
    have hH : HoldsK enc d.sz w b 0 xs.toArray := by
      unfold HoldsK
      rw [flat_flatK hf.len]
      exact holds_id hb (by rw [hlc]; exact htk)
    have hblk : b < w.heap.size := (Array.getElem?_eq_some_iff.1 hb).1
    have hc := AnyQ.slices_SortFunc_eq L d.sz aE zE enc hf.len hf.one cf hO g cb b 0 cap xs.toArray w eg (by simpa using hcmp b rfl) hH hblk (by simpa using hlen)
    rw [List.size_toArray] at hc
    refine hc.mono ?_
    rintro e' w' ⟨rfl, n, os, rfl⟩
    have hsz : (sortd cf xs).length = xs.length := hp.length_eq
    have hlt : ((sortd cf xs).flatMap enc).length = xs.length * d.sz := by
      have : ∀ ys : List α, (ys.flatMap enc).length = ys.length * d.sz := by
        intro ys
        induction ys with
        | nil => simp
        | cons y ys ih => simp only [List.flatMap_cons, List.length_append, List.length_cons, hf.len, ih, Nat.succ_mul]; omega
      rw [this, hsz]
    have hput : sortWorldK enc d.sz w b 0 n (pdq (ltOf cf) xs.toArray 0 xs.length (Lib.bitLen xs.length) true true) os = grow (putRow id (Sort.ahead w n) b 0 ((sortd cf xs).flatMap enc).toArray) os := by
      unfold sortWorldK putRowK
      rw [← flat_flatK hf.len]
      simp [sortd]
    rw [hput]
    refine ⟨rfl, (R_flat hf).2 ⟨h0, by rw [hlt, hsz], .inr ⟨b, cap, _, by rw [hsz], hbase, heap_sorted_id _ hb, by rw [hsz]; exact hnc, hcm, by simp [putCells, hcs], ?_⟩⟩, grownBy_sorted_id _⟩
    rw [hsz, ← hlt]
    refine take_putCells_id cur _ ?_
    rw [hlt, hcs]
    exact Nat.mul_le_mul_right _ hnc
end
end Go.Proofs.YtgbcihbnaecejaaW.PrintLast

namespace Go.Proofs.Ytgbcihbnaecejaa.Q
open Go Go.RowKit Go.Proofs.YtgbcihbnaecejaaW.PrintWords Go.Proofs.YtgbcihbnaecejaaW.PrintLast Go.Proofs.YtgbcihbnaecejaaW.PrintMore Go.Sort
def GrewD (w w' : World) : Prop := ∃ q os, w' = grow (w.drewN q) os
theorem GrewD.refl (w : World) : GrewD w w := ⟨0, #[], by rw [grow_empty]; rfl⟩
theorem GrewD.drew {w w' : World} (h : GrewD w w') : GrewD w w'.drew := by
  obtain ⟨q, os, rfl⟩ := h
  exact ⟨q + 1, os, rfl⟩
theorem GrewD.drewN {w w' : World} (h : GrewD w w') (n : Nat) : GrewD w (w'.drewN n) := by
  obtain ⟨q, os, rfl⟩ := h
  exact ⟨q + n, os, by rw [← World.drewN_drewN]; rfl⟩
theorem GrewD.alloc {w w' : World} (h : GrewD w w') (o : Obj) : GrewD w (w'.alloc o) := by
  obtain ⟨q, os, rfl⟩ := h
  exact ⟨q, os ++ #[o], by rw [alloc_eq_grow, grow_grow]⟩
theorem GrewD.below {w w' : World} (h : GrewD w w') : Below w.heap.size w w' := by
  obtain ⟨q, os, rfl⟩ := h
  exact ⟨rfl, rfl, rfl, by simp, fun i hi => heap_grow_old _ _ hi⟩
theorem GrewD.cell {w w' : World} (h : GrewD w w') {a : Addr} {v : Value} (hc : w.cell? a = some v) : w'.cell? a = some v := pw_cell_below h.below hc
end Go.Proofs.Ytgbcihbnaecejaa.Q

namespace Go.Proofs
open Go.Shelf
def Try.sortE_ren : Go.Shelf.Ren := ⟨fun | 6 => 26 | 15 => 36 | 14 => 35 | 28 => 48 | 29 => 49 | 20 => 40 | 21 => 41 | 22 => 42 | 23 => 43 | 24 => 44 | 25 => 45 | 26 => 46 | 27 => 47 | 46 => 51 | 47 => 52 | 48 => 53 | 49 => 54 | 50 => 55 | 57 => 57 | n => n, fun | 22 => 22 | 24 => 24 | 25 => 54 | 3 => 3 | 39 => 61 | 0 => 0 | 53 => 75 | 55 => 77 | 4 => 4 | 46 => 68 | 45 => 67 | 50 => 72 | 5 => 5 | 9 => 9 | 66 => 79 | 70 => 83 | 76 => 86 | 77 => 87 | n => n, fun | n => n⟩
theorem Try.sortE : Go.Proofs.SlLaysF0.n6 Try.prog Try.sortE_ren := {
  mixed := by kernel_rfl
  f6 := ⟨Try.f26.name, by decide, Try.func26.trans (congrArg some (by kernel_rfl))⟩
  f14 := ⟨Try.f35.name, by decide, Try.func35.trans (congrArg some (by kernel_rfl))⟩
  f15 := Try.func36.trans (congrArg some (by kernel_rfl))
  f20 := ⟨Try.f40.name, by decide, Try.func40.trans (congrArg some (by kernel_rfl))⟩
  f21 := ⟨Try.f41.name, by decide, Try.func41.trans (congrArg some (by kernel_rfl))⟩
  f22 := ⟨Try.f42.name, by decide, Try.func42.trans (congrArg some (by kernel_rfl))⟩
  f23 := ⟨Try.f43.name, by decide, Try.func43.trans (congrArg some (by kernel_rfl))⟩
  f24 := ⟨Try.f44.name, by decide, Try.func44.trans (congrArg some (by kernel_rfl))⟩
  f25 := ⟨Try.f45.name, by decide, Try.func45.trans (congrArg some (by kernel_rfl))⟩
  f26 := ⟨Try.f46.name, by decide, Try.func46.trans (congrArg some (by kernel_rfl))⟩
  f27 := ⟨Try.f47.name, by decide, Try.func47.trans (congrArg some (by kernel_rfl))⟩
  f28 := Try.func48.trans (congrArg some (by kernel_rfl))
  f29 := Try.func49.trans (congrArg some (by kernel_rfl))
  f46 := ⟨Try.f51.name, by decide, Try.func51.trans (congrArg some (by kernel_rfl))⟩
  f47 := Try.func52.trans (congrArg some (by kernel_rfl))
  f48 := Try.func53.trans (congrArg some (by kernel_rfl))
  f49 := ⟨Try.f54.name, by decide, Try.func54.trans (congrArg some (by kernel_rfl))⟩
  f50 := ⟨Try.f55.name, by decide, Try.func55.trans (congrArg some (by kernel_rfl))⟩
  f57 := ⟨Try.f57.name, by decide, Try.func57.trans (congrArg some (by kernel_rfl))⟩
  t0 := Try.underlying0
  a0 := Try.isAgg0
  z0 := Try.sizeOf0
  v0 := Try.zeroValue0
  t3 := Try.underlying3
  a3 := Try.isAgg3
  z3 := Try.sizeOf3
  v3 := Try.zeroValue3
  t4 := Try.underlying4
  a4 := Try.isAgg4
  z4 := Try.sizeOf4
  v4 := Try.zeroValue4
  t5 := Try.underlying5
  a5 := Try.isAgg5
  z5 := Try.sizeOf5
  v5 := Try.zeroValue5
  t9 := Try.underlying9
  a9 := Try.isAgg9
  z9 := Try.sizeOf9
  v9 := Try.zeroValue9
  t22 := Try.underlying22
  a22 := Try.isAgg22
  z22 := Try.sizeOf22
  v22 := Try.zeroValue22
  t25 := Try.underlying54
  a25 := Try.isAgg54
  z25 := Try.sizeOf54
  v25 := Try.zeroValue54
  t39 := Try.underlying61
  a39 := Try.isAgg61
  z39 := Try.sizeOf61
  v39 := Try.zeroValue61
  t45 := Try.underlying67
  a45 := Try.isAgg67
  z45 := Try.sizeOf67
  v45 := Try.zeroValue67
  t46 := Try.underlying68
  a46 := Try.isAgg68
  z46 := Try.sizeOf68
  v46 := Try.zeroValue68
  t50 := Try.underlying72
  a50 := Try.isAgg72
  z50 := Try.sizeOf72
  v50 := Try.zeroValue72
  t53 := Try.underlying75
  a53 := Try.isAgg75
  z53 := Try.sizeOf75
  v53 := Try.zeroValue75
  t55 := Try.underlying77
  a55 := Try.isAgg77
  z55 := Try.sizeOf77
  v55 := Try.zeroValue77
  t66 := Try.underlying79
  a66 := Try.isAgg79
  z66 := Try.sizeOf79
  v66 := Try.zeroValue79
  t70 := Try.underlying83
  a70 := Try.isAgg83
  z70 := Try.sizeOf83
  v70 := Try.zeroValue83
  t76 := Try.underlying86
  a76 := Try.isAgg86
  z76 := Try.sizeOf86
  v76 := Try.zeroValue86
  t77 := Try.underlying87
  a77 := Try.isAgg87
  z77 := Try.sizeOf87
  v77 := Try.zeroValue87 }
end Go.Proofs

namespace Go.Proofs.Ytgbcihbnaecejaa.Q
open Go Go.RowKit Go.Lib Go.Proofs.YtgbcihbnaecejaaW.PrintWords Go.Proofs.YtgbcihbnaecejaaW.PrintLast Go.Proofs.YtgbcihbnaecejaaW.PrintMore Go.Sort
set_option linter.unusedVariables false
set_option linter.unusedSimpArgs false
def cmpI (a b : Int) : Int := if a < b then -1 else if a > b then 1 else 0
theorem cmpI_c (a b : Int) (W : World) : Calls Try.prog 29 #[.int .i64 a, .int .i64 b] W fun e w' => e = .returned (.int .i64 (cmpI a b)) ∧ ∃ n, w' = W.drewN n := by
  have h : cmp_Compare_int.f a b = some (cmpI a b) := by
    unfold cmp_Compare_int.f cmp_isNaN_int.f cmpI
    by_cases h1 : a < b
    · simp [h1]
    · by_cases h2 : a > b <;> simp [h1, h2]
  exact (cmp_Compare_int.calls a b _ W h).mono fun e w' h => ⟨h.1, h.2.out⟩
def firstI (a b : Int) : Int := if a = 0 then b else a
theorem two_new0 (W : World) (a b : Value) (t : TypeId) : (W.alloc (.cells #[a, b] t)).cell? ⟨W.heap.size, 0, none⟩ = some a := blk_cell (heap_alloc_new W (.cells #[a, b] t)) 0
theorem two_new1 (W : World) (a b : Value) (t : TypeId) : (W.alloc (.cells #[a, b] t)).cell? ((⟨W.heap.size, 0, none⟩ : Addr).add 1) = some b := blk_cell (heap_alloc_new W (.cells #[a, b] t)) 1
theorem first_c (a b : Int) (A : Addr) (W : World) (h0 : W.cell? A = some (.int .i64 a)) (h1 : W.cell? (A.add 1) = some (.int .i64 b)) : Calls Try.prog 28 #[.slice (some A) 2 2] W fun e w' => e = .returned (.int .i64 (firstI a b)) ∧ ∃ n, w' = W.drewN n := by
  have hr : Kd.C (Kd.int .i64) W (some A) [a, b].length [a, b] := by
    refine ⟨rfl, by simp, fun _ => ⟨A, rfl, fun j p hp => ?_⟩⟩
    match j, hp with
    | 0, hp =>
      simp at hp
      subst hp
      exact ⟨[.int .i64 a], rfl, rfl, fun j u hu => by match j, hu with | 0, hu => simpa [Addr.add] using hu ▸ h0 | j + 1, hu => simp at hu⟩
    | 1, hp =>
      simp at hp
      subst hp
      exact ⟨[.int .i64 b], rfl, rfl, fun j u hu => by match j, hu with | 0, hu => simpa using hu ▸ h1 | j + 1, hu => simp at hu⟩
    | j + 2, hp => simp at hp
  have r0 : Go.Proofs.YtgbcihbnaecejaaW.PrintWords.rd [a, b] 0 = a := rfl
  have w1 : wrap64 (0 + 1) = 1 := by unfold wrap64; omega
  have w2 : wrap64 (1 + 1) = 2 := by unfold wrap64; omega
  have r1 : Go.Proofs.YtgbcihbnaecejaaW.PrintWords.rd [a, b] 1 = b := rfl
  have l2 : ((List.length [a, b] : Nat) : Int) = 2 := rfl
  have hf : orders_first.f 9 [a, b] = some (firstI a b) := by
    unfold firstI
    show orders_first.l0 9 [a, b] 2 0 = _
    simp only [orders_first.l0, l2, r0, w1, r1, w2]
    by_cases e : a = 0
    · by_cases e2 : b = 0
      · simp [e, e2]
      · simp [e, e2]
    · simp [e]
  exact (orders_first.calls 9 (some A) 2 [a, b] _ W hr (by simp) hf).mono fun e w' h => ⟨h.1, h.2.out⟩
def odEnc (x : Od) : List Value := [.int .i64 x.f0, .string x.f1, .string x.f2, .int .i64 x.f3, .int .i64 x.f4, .int .i64 x.f5, .int .i64 x.f6, .bool x.f7]
def odCmp (x y : Od) : Int := firstI (cmpI x.f3 y.f3) (cmpI x.f0 y.f0)
theorem od_lt (x y : Od) : ltOf odCmp x y = decide (lessO x y) := by
  unfold ltOf odCmp firstI cmpI lessO
  by_cases h1 : x.f3 < y.f3
  · simp [h1]
  · by_cases h2 : x.f3 > y.f3
    · simp [h1, h2]
      omega
    · by_cases h3 : x.f0 < y.f0
      · simp [h1, h2, h3]
        omega
      · by_cases h4 : x.f0 > y.f0 <;> simp [h1, h2, h3, h4]
theorem od_swo : SWO (ltOf odCmp) where
  irrefl x := by rw [od_lt]; simp [lessO]
  trans x y z h1 h2 := by
    rw [od_lt, decide_eq_true_eq] at *
    exact lessO_trans h1 h2
  ntrans x y z h1 h2 := by
    rw [od_lt, decide_eq_false_iff_not] at *
    unfold lessO at *
    omega
theorem od_flat : Flat k24 odEnc where
  m := ⟨fun h => k24_openM h, fun h => h ▸ k24_mkM _ _ _ _⟩
  len _ := rfl
  one x v hv := by
    simp only [odEnc, List.mem_cons, List.not_mem_nil, or_false] at hv
    rcases hv with rfl | rfl | rfl | rfl | rfl | rfl | rfl | rfl <;> rfl
set_option maxRecDepth 100000 in
set_option maxHeartbeats 4000000 in
theorem od_clos (x y : Od) (W : World) :
    Calls Try.prog 27 #[.agg #[.int .i64 x.f0, .string x.f1, .string x.f2, .int .i64 x.f3, .int .i64 x.f4, .int .i64 x.f5, .int .i64 x.f6, .bool x.f7], .agg #[.int .i64 y.f0, .string y.f1, .string y.f2, .int .i64 y.f3, .int .i64 y.f4, .int .i64 y.f5, .int .i64 y.f6, .bool y.f7]] W fun e w' => e = .returned (.int .i64 (odCmp x y)) ∧ GrewD W w' := by
  go_enter Try.func27, Try.ntmps27
  go_wp2
  have hg : GrewD W ((W.alloc (.cells #[.int .i64 x.f0, .string x.f1, .string x.f2, .int .i64 x.f3, .int .i64 x.f4, .int .i64 x.f5, .int .i64 x.f6, .bool x.f7] 24)).alloc (.cells #[.int .i64 y.f0, .string y.f1, .string y.f2, .int .i64 y.f3, .int .i64 y.f4, .int .i64 y.f5, .int .i64 y.f6, .bool y.f7] 24)) := ((GrewD.refl W).alloc _).alloc _
  have hx0 : ((W.alloc (.cells #[.int .i64 x.f0, .string x.f1, .string x.f2, .int .i64 x.f3, .int .i64 x.f4, .int .i64 x.f5, .int .i64 x.f6, .bool x.f7] 24)).alloc (.cells #[.int .i64 y.f0, .string y.f1, .string y.f2, .int .i64 y.f3, .int .i64 y.f4, .int .i64 y.f5, .int .i64 y.f6, .bool y.f7] 24)).heap[W.heap.size]? = some (.cells #[.int .i64 x.f0, .string x.f1, .string x.f2, .int .i64 x.f3, .int .i64 x.f4, .int .i64 x.f5, .int .i64 x.f6, .bool x.f7] 24) := blk_alloc (heap_alloc_new W _) _
  have hy0 : ((W.alloc (.cells #[.int .i64 x.f0, .string x.f1, .string x.f2, .int .i64 x.f3, .int .i64 x.f4, .int .i64 x.f5, .int .i64 x.f6, .bool x.f7] 24)).alloc (.cells #[.int .i64 y.f0, .string y.f1, .string y.f2, .int .i64 y.f3, .int .i64 y.f4, .int .i64 y.f5, .int .i64 y.f6, .bool y.f7] 24)).heap[W.heap.size + 1]? = some (.cells #[.int .i64 y.f0, .string y.f1, .string y.f2, .int .i64 y.f3, .int .i64 y.f4, .int .i64 y.f5, .int .i64 y.f6, .bool y.f7] 24) := by simpa using heap_alloc_new (W.alloc (.cells #[.int .i64 x.f0, .string x.f1, .string x.f2, .int .i64 x.f3, .int .i64 x.f4, .int .i64 x.f5, .int .i64 x.f6, .bool x.f7] 24)) (.cells #[.int .i64 y.f0, .string y.f1, .string y.f2, .int .i64 y.f3, .int .i64 y.f4, .int .i64 y.f5, .int .i64 y.f6, .bool y.f7] 24)
  generalize ((W.alloc (.cells #[.int .i64 x.f0, .string x.f1, .string x.f2, .int .i64 x.f3, .int .i64 x.f4, .int .i64 x.f5, .int .i64 x.f6, .bool x.f7] 24)).alloc (.cells #[.int .i64 y.f0, .string y.f1, .string y.f2, .int .i64 y.f3, .int .i64 y.f4, .int .i64 y.f5, .int .i64 y.f6, .bool y.f7] 24)) = W2 at hg hx0 hy0 ⊢
  generalize W.heap.size + 1 = gy at hy0 ⊢
  generalize W.heap.size = gx at hx0 ⊢
  have a0 := blk_cell hx0 0
  have a3 := blk_cell hx0 3
  have b0 := blk_cell hy0 0
  have b3 := blk_cell hy0 3
  simp only [List.getElem?_toArray, List.getElem?_cons_zero, List.getElem?_cons_succ] at a0 a3 b0 b3
  have HG := Lib.hid hg
  clear hg hx0 hy0
  go_region_held3 (fun w' => w'.cell? ⟨gx, 0, none⟩ = some (.int .i64 x.f0) ∧ w'.cell? ⟨gx, 3, none⟩ = some (.int .i64 x.f3) ∧ w'.cell? ⟨gy, 0, none⟩ = some (.int .i64 y.f0) ∧ w'.cell? ⟨gy, 3, none⟩ = some (.int .i64 y.f3)) (go_keep)
    (first | (go_at_call 29; refine (cmpI_c _ _ _).mono ?_; rintro e w' ⟨rfl, n, rfl⟩) | (go_at_call 28; refine (first_c (cmpI x.f3 y.f3) (cmpI x.f0 y.f0) _ _ (two_new0 _ _ _ _) (two_new1 _ _ _ _)).mono ?_; rintro e w' ⟨rfl, n, rfl⟩))
  go_wp2
  go_ret
  exact ⟨rfl, by repeat (first | exact HG.out | apply GrewD.drewN | apply GrewD.drew | apply GrewD.alloc)⟩
instance : Inhabited Od := ⟨z24⟩
theorem od_lays (cb : Nat) (blk size : Nat) (w : World) : CmpLays Try.prog 27 #[] odEnc 8 odCmp blk 0 size w := by
  intro m os dk hs x y
  exact od_clos x y _
theorem od_sorted (xs : List Od) (hd : xs.Pairwise (fun a b => a.f0 ≠ b.f0)) : (sortd odCmp xs).Perm xs ∧ (sortd odCmp xs).Pairwise lessO := by
  obtain ⟨h1, h2⟩ := sortd_size od_swo xs
  refine ⟨h1, ?_⟩
  have hd' : (sortd odCmp xs).Pairwise (fun a b => a.f0 ≠ b.f0) := h1.symm.pairwise hd (fun {a b} h => fun e => h e.symm)
  rw [List.pairwise_iff_getElem] at hd' ⊢
  intro i j hi hj hij
  have h3 := h2 i j hij (by rw [h1.length_eq] at hj; exact hj)
  rw [getElem!_pos (sortd odCmp xs) i hi, getElem!_pos (sortd odCmp xs) j hj, od_lt, decide_eq_false_iff_not] at h3
  have h4 := hd' i j hi hj hij
  unfold lessO at h3 ⊢
  omega
theorem od_sort_c {w : World} {base : Nat} {v : Value} {xs : List Od} (h : w.ownsRow base 24 8 v xs.length (xs.flatMap odEnc)) (hd : xs.Pairwise (fun a b => a.f0 ≠ b.f0)) (hl : xs.length ≤ 400) :
    Calls Try.prog 26 #[v, .func (.func 27) #[] #[]] w fun e w' => e = .returned (.tuple #[]) ∧ Kd.R k24 24 w' base (fun _ => True) v (sortO xs) ∧ w.grownBy w' v.ownBlock := by
  have eg := enters_of Try.func27 (by kernel_rfl) rfl
  have hR : Kd.R k24 24 w base (fun _ => True) v xs := (R_flat od_flat).2 ⟨fun _ _ => trivial, h⟩
  refine (R_sorted od_flat Try.sortE Try.isAgg24 Try.sizeOf24 odCmp od_swo 27 #[] eg hR (fun blk _ => od_lays 0 blk _ _) (by omega)).mono ?_
  rintro e w' ⟨rfl, h2, h3⟩
  obtain ⟨p1, p2⟩ := od_sorted xs hd
  rw [sortO_of_perm hd p1 p2] at h2
  exact ⟨rfl, h2, h3⟩
end Go.Proofs.Ytgbcihbnaecejaa.Q

namespace Go.Proofs
open Go.Shelf
def Try.l21_ren : Go.Shelf.Ren := ⟨fun | 8 => 21 | 6 => 33 | n => n, fun | 22 => 22 | 23 => 24 | 25 => 42 | 4 => 4 | 3 => 3 | 0 => 0 | n => n, fun | n => n⟩
theorem Try.l21 : Go.Proofs.SlLaysH0.n8 Try.prog Try.l21_ren := {
  mixed := by kernel_rfl
  f6 := ⟨Try.f33.name, by decide, Try.func33.trans (congrArg some (by kernel_rfl))⟩
  f8 := ⟨Try.f21.name, by decide, Try.func21.trans (congrArg some (by kernel_rfl))⟩
  t0 := Try.underlying0
  a0 := Try.isAgg0
  z0 := Try.sizeOf0
  v0 := Try.zeroValue0
  t3 := Try.underlying3
  a3 := Try.isAgg3
  z3 := Try.sizeOf3
  v3 := Try.zeroValue3
  t4 := Try.underlying4
  a4 := Try.isAgg4
  z4 := Try.sizeOf4
  v4 := Try.zeroValue4
  t22 := Try.underlying22
  a22 := Try.isAgg22
  z22 := Try.sizeOf22
  v22 := Try.zeroValue22
  t25 := Try.underlying42
  a25 := Try.isAgg42
  z25 := Try.sizeOf42
  v25 := Try.zeroValue42 }
end Go.Proofs
