/- For any list, each open order is an element that is known, of the person, with a month that is not later and a claim that is not 0; no other open order has its number, and no later element that is known has it; every number whose last known element satisfies this is among them; every argument that the types admit
   The walk of the law's code and its plain law (merged by wip/tools/trim.py out of own texts and of texts that the kit's printer wrote). -/
import Derived.Test.YtgbcihbnaecejaaCNum3
import Derived.Outline
import Derived.IntWalk
import Derived.Deep.QuietTactic
import Derived.BigQuiet
import Derived.Test.YtgbcihbnaecejaaRows
import Derived.WalkKit
import Derived.ProofKit
import Derived.OpenShut
import Derived.ShutString
import Derived.ChangeOld
import Derived.Below
import Derived.SizedLaws
namespace Go.Proofs.Ytgbcihbnaecejaa.Q
open Go Go.RowKit Go.Proofs.YtgbcihbnaecejaaW.PrintWords Go.Proofs.YtgbcihbnaecejaaW.PrintLast Go.Proofs.YtgbcihbnaecejaaW.PrintMore
set_option linter.unusedVariables false
set_option linter.unusedSimpArgs false
def wageofficeref31_Valid.f (l0 : List Od) : Option (Bool) := some (valid l0)
def RInv (l : List Od) (w : World) (k : Nat) (wr : World) : Prop := validFrom [] (l.take k) = true ∧ Below w.heap.size w wr
def RIn (l : List Od) (w : World) (o : Od) (j : Nat) (wr : World) : Prop := (∀ x ∈ l.take j, x.f0 = o.f0 → x.f1 = o.f1 ∧ x.f2 = o.f2) ∧ Below w.heap.size w wr
theorem newIn_snoc (pre : List Od) (x o : Od) : newIn (pre ++ [x]) o = (newIn pre o && (x.f0 != o.f0)) := by
  unfold newIn
  rw [List.all_append]
  congr 1
  simp only [List.all_cons, List.all_nil, Bool.and_true]
  rw [Bool.eq_iff_iff, decide_eq_true_iff, bne_iff_ne]
theorem numsC (A0 : Option Addr) (c0 : Nat) (l : List Od) (p : ByteArray) (n : Nat) (hl : l.length ≤ 400) (hn : n ≤ l.length) (w : World) (hr : Kd.C k24 w A0 l.length l) (hc : l.length ≤ c0) : Calls Try.prog 25 #[.slice A0 n c0, .string p] w fun e w' => e = .returned (.int .i64 (nums p [] (l.take n) : Nat)) ∧ Below w.heap.size w w' := by
  have e : (l.take n).length = n := by rw [List.length_take]; omega
  have h := rnumbers_c A0 c0 (l.take n) p (by omega) w (Kd.C_take hr hn) (by omega)
  rwa [e] at h
set_option maxRecDepth 100000 in
set_option maxHeartbeats 8000000 in
theorem rvalid_any (A0 : Option Addr) (c0 : Nat) (l0 : List Od) (w : World) (hr0 : Kd.C k24 w A0 l0.length l0) (hc0 : l0.length ≤ c0) :
    Calls Try.prog 15 #[.slice A0 l0.length c0] w fun e w' => e = .returned (.bool (valid l0)) ∧ Below w.heap.size w w' := by
  have HC := Lib.hid hr0
  have HL := Lib.hid hc0
  clear hr0 hc0
  by_cases hlen : l0.length ≤ 400
  · go_enter Try.func15, Try.ntmps15
    go_wp2
    go_loopw [3] (fun i wr => ∃ k : Nat, k ≤ l0.length ∧ i = .int .i64 k ∧ RInv l0 w k wr) (fun i _ => l0.length - (intOf i).toNat)
    case atStart => exact ⟨0, Nat.zero_le _, rfl, rfl, Below.refl _ _⟩
    case round =>
      obtain ⟨k, hk, rfl, hI⟩ := hrel
      by_cases hlt : k < l0.length
      · have HB := Lib.hid hI.2
        have HCW := Lib.hid (Kd.C_below HC.out HB.out)
        obtain ⟨ad, rfl, a0, a1, a2, a3, a4, a5, a6, a7⟩ := od_cells HCW.out hlt
        generalize ho : odAt l0 k = o at *
        have HO := Lib.hid ho
        have HI := Lib.hid hI
        clear ho hI
        cases hf : formedOk o with
        | false =>
          have HF := Lib.hid (rformed_b hf)
          have HV := Lib.hid (valid_stop hlt (by rw [HO.out]; unfold okNext; rw [hf]; rfl))
          clear hf
          go_wp2_with fail
          refine start_ (n := 24) (S := fun W => Below wr.heap.size wr W) (ds := []) #[false, false, false, false, false, false, false, false, false, false, false, false, false, false, false, false, false, false, false, false, false, false, false, false] (by kernel_rfl) rfl rfl (below_drew1 (Below.refl _ _)) (fun hHeld => ?_)
          refine pure_ (i := 0) (N := (some 15)) (v := ?_) (a' := ?_) #[true, false, false, false, false, false, false, false, false, false, false, false, false, false, false, false, false, false, false, false, false, false, false, false] rfl rfl (by kernel_rfl) (fun _ _ _ h => h) (Or.inl ⟨by rfl, ?_⟩) ?_ ?_
          rotate_left
          · intro w'
            go_simp
            with_reducible rfl
          rotate_left
          · simp only [Act.put, List.setIfInBounds_toArray, List.set_cons_zero, List.set_cons_succ, i64_w, i32_w]
            rfl
          refine pure_ (i := 1) (N := (some 16)) (v := ?_) (a' := ?_) #[true, true, false, false, false, false, false, false, false, false, false, false, false, false, false, false, false, false, false, false, false, false, false, false] rfl rfl (by kernel_rfl) (fun _ _ _ h => h) (Or.inl ⟨by rfl, ?_⟩) ?_ ?_
          rotate_left
          · intro w'
            go_simp
            with_reducible rfl
          rotate_left
          · simp only [Act.put, List.setIfInBounds_toArray, List.set_cons_zero, List.set_cons_succ, i64_w, i32_w]
            rfl
          refine pure_ (i := 2) (N := (some 17)) (v := ?_) (a' := ?_) #[true, true, true, false, false, false, false, false, false, false, false, false, false, false, false, false, false, false, false, false, false, false, false, false] rfl rfl (by kernel_rfl) (fun _ _ _ h => h) (Or.inl ⟨by rfl, ?_⟩) ?_ ?_
          rotate_left
          · intro w'
            go_simp
            with_reducible rfl
          rotate_left
          · simp only [Act.put, List.setIfInBounds_toArray, List.set_cons_zero, List.set_cons_succ, i64_w, i32_w]
            rfl
          refine take_ (i := 3) (N := (some 18)) (v := ?_) (a' := ?_) #[true, true, true, true, false, false, false, false, false, false, false, false, false, false, false, false, false, false, false, false, false, false, false, false] rfl rfl (by kernel_rfl) (fun _ _ _ h => h) (Or.inl ⟨by rfl, ?_⟩) hHeld ?_ ?_
          rotate_left
          · rintro w' sb
            have c0 := pw_cell_below sb a0
            have c1 := pw_cell_below sb a1
            have c2 := pw_cell_below sb a2
            have c3 := pw_cell_below sb a3
            have c4 := pw_cell_below sb a4
            have c5 := pw_cell_below sb a5
            have c6 := pw_cell_below sb a6
            have c7 := pw_cell_below sb a7
            clear sb
            go_simp
            with_reducible rfl
          rotate_left
          · simp only [Act.put, List.setIfInBounds_toArray, List.set_cons_zero, List.set_cons_succ, i64_w, i32_w]
            rfl
          refine one_ (i := 4) (N := (some 19)) #[true, true, true, true, true, false, false, false, false, false, false, false, false, false, false, false, false, false, false, false, false, false, false, false] rfl rfl (by kernel_rfl) (by decide) (fun K hK => ?_)
          refine goes_ Try.func24 (by kernel_rfl) rfl #[odV o] (by rfl) rfl rfl (by (try simp only [List.map_toArray, List.map_cons, List.map_nil]); first | done | rfl) ?_
          with_reducible refine (HF.out _).mono ?_
          rintro e w' ⟨rfl, hb⟩
          refine ⟨_, rfl, ?_⟩
          refine hK.out _ _ (below_step hHeld hb) (fun hHeld => ?_)
          clear hK K
          clear hb
          refine norm_ (a' := ?_) ?_ ?_
          rotate_left
          · show Act.put _ (some 19) _ = _
            simp only [Act.put, List.setIfInBounds_toArray, List.set_cons_zero, List.set_cons_succ, i64_w, i32_w]
            rfl
          refine pure_ (i := 5) (N := (some 20)) (v := ?_) (a' := ?_) #[true, true, true, true, true, true, false, false, false, false, false, false, false, false, false, false, false, false, false, false, false, false, false, false] rfl rfl (by kernel_rfl) (fun _ _ _ h => h) (Or.inl ⟨by rfl, ?_⟩) ?_ ?_
          rotate_left
          · intro w'
            go_simp
            with_reducible rfl
          rotate_left
          · simp only [Act.put, List.setIfInBounds_toArray, List.set_cons_zero, List.set_cons_succ, i64_w, i32_w]
            rfl
          refine pure_ (i := 6) (N := (some 21)) (v := ?_) (a' := ?_) #[true, true, true, true, true, true, true, false, false, false, false, false, false, false, false, false, false, false, false, false, false, false, false, false] rfl rfl (by kernel_rfl) (fun _ _ _ h => h) (Or.inl ⟨by rfl, ?_⟩) ?_ ?_
          rotate_left
          · intro w'
            go_simp
            with_reducible rfl
          rotate_left
          · simp only [Act.put, List.setIfInBounds_toArray, List.set_cons_zero, List.set_cons_succ, i64_w, i32_w]
            rfl
          refine pure_ (i := 7) (N := (some 22)) (v := undef) (a' := ?_) #[true, true, true, true, true, true, true, true, false, false, false, false, false, false, false, false, false, false, false, false, false, false, false, false] rfl rfl (by kernel_rfl) (fun _ _ _ h => h) (Or.inr ⟨by rfl, rfl⟩) ?_ ?_
          rotate_left
          · simp only [Act.put, List.setIfInBounds_toArray, List.set_cons_zero, List.set_cons_succ, i64_w, i32_w]
            rfl
          refine pure_ (i := 8) (N := (some 23)) (v := undef) (a' := ?_) #[true, true, true, true, true, true, true, true, true, false, false, false, false, false, false, false, false, false, false, false, false, false, false, false] rfl rfl (by kernel_rfl) (fun _ _ _ h => h) (Or.inr ⟨by rfl, rfl⟩) ?_ ?_
          rotate_left
          · simp only [Act.put, List.setIfInBounds_toArray, List.set_cons_zero, List.set_cons_succ, i64_w, i32_w]
            rfl
          refine pure_ (i := 9) (N := (some 24)) (v := undef) (a' := ?_) #[true, true, true, true, true, true, true, true, true, true, false, false, false, false, false, false, false, false, false, false, false, false, false, false] rfl rfl (by kernel_rfl) (fun _ _ _ h => h) (Or.inr ⟨by rfl, rfl⟩) ?_ ?_
          rotate_left
          · simp only [Act.put, List.setIfInBounds_toArray, List.set_cons_zero, List.set_cons_succ, i64_w, i32_w]
            rfl
          refine pure_ (i := 10) (N := (some 25)) (v := undef) (a' := ?_) #[true, true, true, true, true, true, true, true, true, true, true, false, false, false, false, false, false, false, false, false, false, false, false, false] rfl rfl (by kernel_rfl) (fun _ _ _ h => h) (Or.inr ⟨by rfl, rfl⟩) ?_ ?_
          rotate_left
          · simp only [Act.put, List.setIfInBounds_toArray, List.set_cons_zero, List.set_cons_succ, i64_w, i32_w]
            rfl
          refine pure_ (i := 11) (N := (some 26)) (v := undef) (a' := ?_) #[true, true, true, true, true, true, true, true, true, true, true, true, false, false, false, false, false, false, false, false, false, false, false, false] rfl rfl (by kernel_rfl) (fun _ _ _ h => h) (Or.inr ⟨by rfl, rfl⟩) ?_ ?_
          rotate_left
          · simp only [Act.put, List.setIfInBounds_toArray, List.set_cons_zero, List.set_cons_succ, i64_w, i32_w]
            rfl
          refine pure_ (i := 12) (N := (some 27)) (v := undef) (a' := ?_) #[true, true, true, true, true, true, true, true, true, true, true, true, true, false, false, false, false, false, false, false, false, false, false, false] rfl rfl (by kernel_rfl) (fun _ _ _ h => h) (Or.inr ⟨by rfl, rfl⟩) ?_ ?_
          rotate_left
          · simp only [Act.put, List.setIfInBounds_toArray, List.set_cons_zero, List.set_cons_succ, i64_w, i32_w]
            rfl
          refine pure_ (i := 13) (N := (some 28)) (v := undef) (a' := ?_) #[true, true, true, true, true, true, true, true, true, true, true, true, true, true, false, false, false, false, false, false, false, false, false, false] rfl rfl (by kernel_rfl) (fun _ _ _ h => h) (Or.inr ⟨by rfl, rfl⟩) ?_ ?_
          rotate_left
          · simp only [Act.put, List.setIfInBounds_toArray, List.set_cons_zero, List.set_cons_succ, i64_w, i32_w]
            rfl
          refine pure_ (i := 14) (N := (some 29)) (v := undef) (a' := ?_) #[true, true, true, true, true, true, true, true, true, true, true, true, true, true, true, false, false, false, false, false, false, false, false, false] rfl rfl (by kernel_rfl) (fun _ _ _ h => h) (Or.inr ⟨by rfl, rfl⟩) ?_ ?_
          rotate_left
          · simp only [Act.put, List.setIfInBounds_toArray, List.set_cons_zero, List.set_cons_succ, i64_w, i32_w]
            rfl
          refine pure_ (i := 15) (N := (some 30)) (v := undef) (a' := ?_) #[true, true, true, true, true, true, true, true, true, true, true, true, true, true, true, true, false, false, false, false, false, false, false, false] rfl rfl (by kernel_rfl) (fun _ _ _ h => h) (Or.inr ⟨by rfl, rfl⟩) ?_ ?_
          rotate_left
          · simp only [Act.put, List.setIfInBounds_toArray, List.set_cons_zero, List.set_cons_succ, i64_w, i32_w]
            rfl
          refine pure_ (i := 16) (N := (some 31)) (v := undef) (a' := ?_) #[true, true, true, true, true, true, true, true, true, true, true, true, true, true, true, true, true, false, false, false, false, false, false, false] rfl rfl (by kernel_rfl) (fun _ _ _ h => h) (Or.inr ⟨by rfl, rfl⟩) ?_ ?_
          rotate_left
          · simp only [Act.put, List.setIfInBounds_toArray, List.set_cons_zero, List.set_cons_succ, i64_w, i32_w]
            rfl
          refine pure_ (i := 17) (N := (some 32)) (v := undef) (a' := ?_) #[true, true, true, true, true, true, true, true, true, true, true, true, true, true, true, true, true, true, false, false, false, false, false, false] rfl rfl (by kernel_rfl) (fun _ _ _ h => h) (Or.inr ⟨by rfl, rfl⟩) ?_ ?_
          rotate_left
          · simp only [Act.put, List.setIfInBounds_toArray, List.set_cons_zero, List.set_cons_succ, i64_w, i32_w]
            rfl
          refine pure_ (i := 18) (N := (some 33)) (v := undef) (a' := ?_) #[true, true, true, true, true, true, true, true, true, true, true, true, true, true, true, true, true, true, true, false, false, false, false, false] rfl rfl (by kernel_rfl) (fun _ _ _ h => h) (Or.inr ⟨by rfl, rfl⟩) ?_ ?_
          rotate_left
          · simp only [Act.put, List.setIfInBounds_toArray, List.set_cons_zero, List.set_cons_succ, i64_w, i32_w]
            rfl
          refine pure_ (i := 19) (N := (some 34)) (v := undef) (a' := ?_) #[true, true, true, true, true, true, true, true, true, true, true, true, true, true, true, true, true, true, true, true, false, false, false, false] rfl rfl (by kernel_rfl) (fun _ _ _ h => h) (Or.inr ⟨by rfl, rfl⟩) ?_ ?_
          rotate_left
          · simp only [Act.put, List.setIfInBounds_toArray, List.set_cons_zero, List.set_cons_succ, i64_w, i32_w]
            rfl
          refine pure_ (i := 20) (N := (some 35)) (v := undef) (a' := ?_) #[true, true, true, true, true, true, true, true, true, true, true, true, true, true, true, true, true, true, true, true, true, false, false, false] rfl rfl (by kernel_rfl) (fun _ _ _ h => h) (Or.inr ⟨by rfl, rfl⟩) ?_ ?_
          rotate_left
          · simp only [Act.put, List.setIfInBounds_toArray, List.set_cons_zero, List.set_cons_succ, i64_w, i32_w]
            rfl
          refine pure_ (i := 21) (N := (some 36)) (v := undef) (a' := ?_) #[true, true, true, true, true, true, true, true, true, true, true, true, true, true, true, true, true, true, true, true, true, true, false, false] rfl rfl (by kernel_rfl) (fun _ _ _ h => h) (Or.inr ⟨by rfl, rfl⟩) ?_ ?_
          rotate_left
          · simp only [Act.put, List.setIfInBounds_toArray, List.set_cons_zero, List.set_cons_succ, i64_w, i32_w]
            rfl
          refine pure_ (i := 22) (N := (some 37)) (v := undef) (a' := ?_) #[true, true, true, true, true, true, true, true, true, true, true, true, true, true, true, true, true, true, true, true, true, true, true, false] rfl rfl (by kernel_rfl) (fun _ _ _ h => h) (Or.inr ⟨by rfl, rfl⟩) ?_ ?_
          rotate_left
          · simp only [Act.put, List.setIfInBounds_toArray, List.set_cons_zero, List.set_cons_succ, i64_w, i32_w]
            rfl
          refine pure_ (i := 23) (N := (some 38)) (v := ?_) (a' := ?_) #[true, true, true, true, true, true, true, true, true, true, true, true, true, true, true, true, true, true, true, true, true, true, true, true] rfl rfl (by kernel_rfl) (fun _ _ _ h => h) (Or.inl ⟨by rfl, ?_⟩) ?_ ?_
          rotate_left
          · intro w'
            go_simp
            with_reducible rfl
          rotate_left
          · simp only [Act.put, List.setIfInBounds_toArray, List.set_cons_zero, List.set_cons_succ, i64_w, i32_w]
            rfl
          refine done_ (by kernel_rfl) ?_
          go_wp2_with fail
          go_ret
          exact ⟨by rw [HV.out]; rfl, below_step HB.out hHeld⟩
        | true =>
          have HF := Lib.hid (rformed_b hf)
          have HFF := Lib.hid hf
          clear hf
          by_cases hk0 : k = 0
          · have hz : decide (0 < k) = false := decide_eq_false (by omega)
            have HLL := Lib.hid (show lastLe (l0.take k) o = true from by rw [← HO.out, lastLe_at hlt]; exact decide_eq_true (fun h => by omega))
            clear hk0
            go_wp2_with fail
            refine start_ (n := 24) (S := fun W => Below wr.heap.size wr W) (ds := []) #[false, false, false, false, false, false, false, false, false, false, false, false, false, false, false, false, false, false, false, false, false, false, false, false] (by kernel_rfl) rfl rfl (below_drew1 (Below.refl _ _)) (fun hHeld => ?_)
            refine pure_ (i := 0) (N := (some 15)) (v := ?_) (a' := ?_) #[true, false, false, false, false, false, false, false, false, false, false, false, false, false, false, false, false, false, false, false, false, false, false, false] rfl rfl (by kernel_rfl) (fun _ _ _ h => h) (Or.inl ⟨by rfl, ?_⟩) ?_ ?_
            rotate_left
            · intro w'
              go_simp
              with_reducible rfl
            rotate_left
            · simp only [Act.put, List.setIfInBounds_toArray, List.set_cons_zero, List.set_cons_succ, i64_w, i32_w]
              rfl
            refine pure_ (i := 1) (N := (some 16)) (v := ?_) (a' := ?_) #[true, true, false, false, false, false, false, false, false, false, false, false, false, false, false, false, false, false, false, false, false, false, false, false] rfl rfl (by kernel_rfl) (fun _ _ _ h => h) (Or.inl ⟨by rfl, ?_⟩) ?_ ?_
            rotate_left
            · intro w'
              go_simp
              with_reducible rfl
            rotate_left
            · simp only [Act.put, List.setIfInBounds_toArray, List.set_cons_zero, List.set_cons_succ, i64_w, i32_w]
              rfl
            refine pure_ (i := 2) (N := (some 17)) (v := ?_) (a' := ?_) #[true, true, true, false, false, false, false, false, false, false, false, false, false, false, false, false, false, false, false, false, false, false, false, false] rfl rfl (by kernel_rfl) (fun _ _ _ h => h) (Or.inl ⟨by rfl, ?_⟩) ?_ ?_
            rotate_left
            · intro w'
              go_simp
              with_reducible rfl
            rotate_left
            · simp only [Act.put, List.setIfInBounds_toArray, List.set_cons_zero, List.set_cons_succ, i64_w, i32_w]
              rfl
            refine take_ (i := 3) (N := (some 18)) (v := ?_) (a' := ?_) #[true, true, true, true, false, false, false, false, false, false, false, false, false, false, false, false, false, false, false, false, false, false, false, false] rfl rfl (by kernel_rfl) (fun _ _ _ h => h) (Or.inl ⟨by rfl, ?_⟩) hHeld ?_ ?_
            rotate_left
            · rintro w' sb
              have c0 := pw_cell_below sb a0
              have c1 := pw_cell_below sb a1
              have c2 := pw_cell_below sb a2
              have c3 := pw_cell_below sb a3
              have c4 := pw_cell_below sb a4
              have c5 := pw_cell_below sb a5
              have c6 := pw_cell_below sb a6
              have c7 := pw_cell_below sb a7
              clear sb
              go_simp
              with_reducible rfl
            rotate_left
            · simp only [Act.put, List.setIfInBounds_toArray, List.set_cons_zero, List.set_cons_succ, i64_w, i32_w]
              rfl
            refine one_ (i := 4) (N := (some 19)) #[true, true, true, true, true, false, false, false, false, false, false, false, false, false, false, false, false, false, false, false, false, false, false, false] rfl rfl (by kernel_rfl) (by decide) (fun K hK => ?_)
            refine goes_ Try.func24 (by kernel_rfl) rfl #[odV o] (by rfl) rfl rfl (by (try simp only [List.map_toArray, List.map_cons, List.map_nil]); first | done | rfl) ?_
            with_reducible refine (HF.out _).mono ?_
            rintro e w' ⟨rfl, hb⟩
            refine ⟨_, rfl, ?_⟩
            refine hK.out _ _ (below_step hHeld hb) (fun hHeld => ?_)
            clear hK K
            clear hb
            refine norm_ (a' := ?_) ?_ ?_
            rotate_left
            · show Act.put _ (some 19) _ = _
              simp only [Act.put, List.setIfInBounds_toArray, List.set_cons_zero, List.set_cons_succ, i64_w, i32_w]
              rfl
            refine pure_ (i := 5) (N := (some 20)) (v := ?_) (a' := ?_) #[true, true, true, true, true, true, false, false, false, false, false, false, false, false, false, false, false, false, false, false, false, false, false, false] rfl rfl (by kernel_rfl) (fun _ _ _ h => h) (Or.inl ⟨by rfl, ?_⟩) ?_ ?_
            rotate_left
            · intro w'
              go_simp
              with_reducible rfl
            rotate_left
            · simp only [Act.put, List.setIfInBounds_toArray, List.set_cons_zero, List.set_cons_succ, i64_w, i32_w]
              rfl
            refine pure_ (i := 6) (N := (some 21)) (v := ?_) (a' := ?_) #[true, true, true, true, true, true, true, false, false, false, false, false, false, false, false, false, false, false, false, false, false, false, false, false] rfl rfl (by kernel_rfl) (fun _ _ _ h => h) (Or.inl ⟨by rfl, ?_⟩) ?_ ?_
            rotate_left
            · intro w'
              go_simp
              with_reducible rfl
            rotate_left
            · simp only [Act.put, List.setIfInBounds_toArray, List.set_cons_zero, List.set_cons_succ, i64_w, i32_w]
              rfl
            refine pure_ (i := 7) (N := (some 22)) (v := ?_) (a' := ?_) #[true, true, true, true, true, true, true, true, false, false, false, false, false, false, false, false, false, false, false, false, false, false, false, false] rfl rfl (by kernel_rfl) (fun _ _ _ h => h) (Or.inl ⟨by rfl, ?_⟩) ?_ ?_
            rotate_left
            · intro w'
              go_simp
              with_reducible rfl
            rotate_left
            · simp only [Act.put, List.setIfInBounds_toArray, List.set_cons_zero, List.set_cons_succ, i64_w, i32_w]
              rfl
            refine pure_ (i := 8) (N := (some 23)) (v := ?_) (a' := ?_) #[true, true, true, true, true, true, true, true, true, false, false, false, false, false, false, false, false, false, false, false, false, false, false, false] rfl rfl (by kernel_rfl) (fun _ _ _ h => h) (Or.inl ⟨by rfl, ?_⟩) ?_ ?_
            rotate_left
            · intro w'
              go_simp
              with_reducible rfl
            rotate_left
            · simp only [Act.put, List.setIfInBounds_toArray, List.set_cons_zero, List.set_cons_succ, i64_w, i32_w]
              rfl
            refine pure_ (i := 9) (N := (some 24)) (v := ?_) (a' := ?_) #[true, true, true, true, true, true, true, true, true, true, false, false, false, false, false, false, false, false, false, false, false, false, false, false] rfl rfl (by kernel_rfl) (fun _ _ _ h => h) (Or.inl ⟨by rfl, ?_⟩) ?_ ?_
            rotate_left
            · intro w'
              go_simp
              with_reducible rfl
            rotate_left
            · simp only [Act.put, List.setIfInBounds_toArray, List.set_cons_zero, List.set_cons_succ, i64_w, i32_w]
              rfl
            refine pure_ (i := 10) (N := (some 25)) (v := undef) (a' := ?_) #[true, true, true, true, true, true, true, true, true, true, true, false, false, false, false, false, false, false, false, false, false, false, false, false] rfl rfl (by kernel_rfl) (fun _ _ _ h => h) (Or.inr ⟨by rfl, rfl⟩) ?_ ?_
            rotate_left
            · simp only [Act.put, List.setIfInBounds_toArray, List.set_cons_zero, List.set_cons_succ, i64_w, i32_w]
              rfl
            refine pure_ (i := 11) (N := (some 26)) (v := undef) (a' := ?_) #[true, true, true, true, true, true, true, true, true, true, true, true, false, false, false, false, false, false, false, false, false, false, false, false] rfl rfl (by kernel_rfl) (fun _ _ _ h => h) (Or.inr ⟨by rfl, rfl⟩) ?_ ?_
            rotate_left
            · simp only [Act.put, List.setIfInBounds_toArray, List.set_cons_zero, List.set_cons_succ, i64_w, i32_w]
              rfl
            refine pure_ (i := 12) (N := (some 27)) (v := undef) (a' := ?_) #[true, true, true, true, true, true, true, true, true, true, true, true, true, false, false, false, false, false, false, false, false, false, false, false] rfl rfl (by kernel_rfl) (fun _ _ _ h => h) (Or.inr ⟨by rfl, rfl⟩) ?_ ?_
            rotate_left
            · simp only [Act.put, List.setIfInBounds_toArray, List.set_cons_zero, List.set_cons_succ, i64_w, i32_w]
              rfl
            refine pure_ (i := 13) (N := (some 28)) (v := undef) (a' := ?_) #[true, true, true, true, true, true, true, true, true, true, true, true, true, true, false, false, false, false, false, false, false, false, false, false] rfl rfl (by kernel_rfl) (fun _ _ _ h => h) (Or.inr ⟨by rfl, rfl⟩) ?_ ?_
            rotate_left
            · simp only [Act.put, List.setIfInBounds_toArray, List.set_cons_zero, List.set_cons_succ, i64_w, i32_w]
              rfl
            refine pure_ (i := 14) (N := (some 29)) (v := undef) (a' := ?_) #[true, true, true, true, true, true, true, true, true, true, true, true, true, true, true, false, false, false, false, false, false, false, false, false] rfl rfl (by kernel_rfl) (fun _ _ _ h => h) (Or.inr ⟨by rfl, rfl⟩) ?_ ?_
            rotate_left
            · simp only [Act.put, List.setIfInBounds_toArray, List.set_cons_zero, List.set_cons_succ, i64_w, i32_w]
              rfl
            refine pure_ (i := 15) (N := (some 30)) (v := undef) (a' := ?_) #[true, true, true, true, true, true, true, true, true, true, true, true, true, true, true, true, false, false, false, false, false, false, false, false] rfl rfl (by kernel_rfl) (fun _ _ _ h => h) (Or.inr ⟨by rfl, rfl⟩) ?_ ?_
            rotate_left
            · simp only [Act.put, List.setIfInBounds_toArray, List.set_cons_zero, List.set_cons_succ, i64_w, i32_w]
              rfl
            refine pure_ (i := 16) (N := (some 31)) (v := undef) (a' := ?_) #[true, true, true, true, true, true, true, true, true, true, true, true, true, true, true, true, true, false, false, false, false, false, false, false] rfl rfl (by kernel_rfl) (fun _ _ _ h => h) (Or.inr ⟨by rfl, rfl⟩) ?_ ?_
            rotate_left
            · simp only [Act.put, List.setIfInBounds_toArray, List.set_cons_zero, List.set_cons_succ, i64_w, i32_w]
              rfl
            refine pure_ (i := 17) (N := (some 32)) (v := undef) (a' := ?_) #[true, true, true, true, true, true, true, true, true, true, true, true, true, true, true, true, true, true, false, false, false, false, false, false] rfl rfl (by kernel_rfl) (fun _ _ _ h => h) (Or.inr ⟨by rfl, rfl⟩) ?_ ?_
            rotate_left
            · simp only [Act.put, List.setIfInBounds_toArray, List.set_cons_zero, List.set_cons_succ, i64_w, i32_w]
              rfl
            refine pure_ (i := 18) (N := (some 33)) (v := undef) (a' := ?_) #[true, true, true, true, true, true, true, true, true, true, true, true, true, true, true, true, true, true, true, false, false, false, false, false] rfl rfl (by kernel_rfl) (fun _ _ _ h => h) (Or.inr ⟨by rfl, rfl⟩) ?_ ?_
            rotate_left
            · simp only [Act.put, List.setIfInBounds_toArray, List.set_cons_zero, List.set_cons_succ, i64_w, i32_w]
              rfl
            refine pure_ (i := 19) (N := (some 34)) (v := undef) (a' := ?_) #[true, true, true, true, true, true, true, true, true, true, true, true, true, true, true, true, true, true, true, true, false, false, false, false] rfl rfl (by kernel_rfl) (fun _ _ _ h => h) (Or.inr ⟨by rfl, rfl⟩) ?_ ?_
            rotate_left
            · simp only [Act.put, List.setIfInBounds_toArray, List.set_cons_zero, List.set_cons_succ, i64_w, i32_w]
              rfl
            refine pure_ (i := 20) (N := (some 35)) (v := undef) (a' := ?_) #[true, true, true, true, true, true, true, true, true, true, true, true, true, true, true, true, true, true, true, true, true, false, false, false] rfl rfl (by kernel_rfl) (fun _ _ _ h => h) (Or.inr ⟨by rfl, rfl⟩) ?_ ?_
            rotate_left
            · simp only [Act.put, List.setIfInBounds_toArray, List.set_cons_zero, List.set_cons_succ, i64_w, i32_w]
              rfl
            refine pure_ (i := 21) (N := (some 36)) (v := undef) (a' := ?_) #[true, true, true, true, true, true, true, true, true, true, true, true, true, true, true, true, true, true, true, true, true, true, false, false] rfl rfl (by kernel_rfl) (fun _ _ _ h => h) (Or.inr ⟨by rfl, rfl⟩) ?_ ?_
            rotate_left
            · simp only [Act.put, List.setIfInBounds_toArray, List.set_cons_zero, List.set_cons_succ, i64_w, i32_w]
              rfl
            refine pure_ (i := 22) (N := (some 37)) (v := ?_) (a' := ?_) #[true, true, true, true, true, true, true, true, true, true, true, true, true, true, true, true, true, true, true, true, true, true, true, false] rfl rfl (by kernel_rfl) (fun _ _ _ h => h) (Or.inl ⟨by rfl, ?_⟩) ?_ ?_
            rotate_left
            · intro w'
              go_simp
              with_reducible rfl
            rotate_left
            · simp only [Act.put, List.setIfInBounds_toArray, List.set_cons_zero, List.set_cons_succ, i64_w, i32_w]
              rfl
            refine pure_ (i := 23) (N := (some 38)) (v := ?_) (a' := ?_) #[true, true, true, true, true, true, true, true, true, true, true, true, true, true, true, true, true, true, true, true, true, true, true, true] rfl rfl (by kernel_rfl) (fun _ _ _ h => h) (Or.inl ⟨by rfl, ?_⟩) ?_ ?_
            rotate_left
            · intro w'
              go_simp
              with_reducible rfl
            rotate_left
            · simp only [Act.put, List.setIfInBounds_toArray, List.set_cons_zero, List.set_cons_succ, i64_w, i32_w]
              rfl
            refine done_ (by kernel_rfl) ?_
            go_wp2_with fail
            have HW := Lib.hid (below_step HB.out hHeld)
            have HOW := Lib.hid (And.intro (pw_cell_below hHeld a0) (And.intro (pw_cell_below hHeld a1) (pw_cell_below hHeld a2)))
            obtain ⟨wo, hwo⟩ : ∃ wo : World, wo = w' := ⟨_, rfl⟩
            subst hwo
            clear hHeld a0 a1 a2 a3 a4 a5 a6 a7
            go_loopw [4, 5] (fun f j wr2 => ∃ jn : Nat, jn ≤ k ∧ f = .bool (newIn (l0.take jn) o) ∧ j = .int .i64 jn ∧ RIn l0 wo o jn wr2) (fun _ j _ => k - (intOf j).toNat)
            case atStart => exact ⟨0, Nat.zero_le _, rfl, rfl, by simp, Below.refl _ _⟩
            case round =>
              obtain ⟨jn, hjn, rfl, rfl, hR⟩ := hrel
              have HR := Lib.hid hR
              clear hR
              have hb : ∃ b, newIn (l0.take jn) o = b := ⟨_, rfl⟩
              obtain ⟨b, hb⟩ := hb
              by_cases hjk : jn < k
              · have hjl : jn < l0.length := by omega
                obtain ⟨adx, eadx, x0, x1, x2, x3, x4, x5, x6, x7⟩ := od_cells (Kd.C_below HC.out (Below.trans HW.out (HR.out.2.mono HW.out.size))) hjl
                cases eadx
                have a0 := pw_cell_below HR.out.2 HOW.out.1
                have a1 := pw_cell_below HR.out.2 HOW.out.2.1
                have a2 := pw_cell_below HR.out.2 HOW.out.2.2
                have HT := Lib.hid (take_odAt hjl)
                generalize hx : odAt l0 jn = x at *
                have HX := Lib.hid hx
                have HBN := Lib.hid hb
                rw [hb]
                clear hx hb x3 x4 x5 x6 x7
                cases b with
                | true =>
                  by_cases he : x.f0 = o.f0
                  · rw [he] at x0
                    have HE := Lib.hid he
                    clear he
                    by_cases he1 : x.f1 = o.f1
                    · rw [he1] at x1
                      have HE1 := Lib.hid he1
                      clear he1
                      by_cases he2 : x.f2 = o.f2
                      · rw [he2] at x2
                        have HE2 := Lib.hid he2
                        clear he2
                        go_wp2_with fail
                        go_quiet (fail)
                        go_wp2_with fail
                        go_quiet (fail)
                        go_wp2_with fail
                        go_roundw
                        case rel =>
                          refine ⟨jn + 1, by omega, ?_, by go_num, ?_, (by repeat (first | exact HR.out.2 | apply pw_below_drewN))⟩
                          · rw [HT.out, newIn_snoc, HBN.out, HE.out]
                            simp
                          · rw [HT.out]
                            intro y hy hyo
                            rcases List.mem_append.1 hy with hy | hy
                            · exact HR.out.1 y hy hyo
                            · rw [List.mem_singleton.1 hy]
                              exact ⟨HE1.out, HE2.out⟩
                        case measure => simp [intOf]; omega
                      · have ne : ¬ x.f2.toList = o.f2.toList := fun h => he2 (str_eq.1 h)
                        have ne' : (x.f2.toList == o.f2.toList) = false := beq_eq_false_iff_ne.2 ne
                        have HV := Lib.hid (valid_stop hlt (by rw [HO.out]; exact okNext_diff (x := x) (by rw [← List.take_append_drop (jn + 1) (l0.take k), List.take_take, Nat.min_eq_left (by omega), HT.out]; simp) HE.out (fun h => he2 h.2)))
                        clear he2
                        go_wp2_with fail
                        go_quiet (fail)
                        go_wp2_with fail
                        go_ret
                        exact ⟨by rw [HV.out]; rfl, pw_below_drewN (Below.trans HW.out (HR.out.2.mono HW.out.size)) _⟩
                    · have ne : ¬ x.f1.toList = o.f1.toList := fun h => he1 (str_eq.1 h)
                      have ne' : (x.f1.toList == o.f1.toList) = false := beq_eq_false_iff_ne.2 ne
                      have HV := Lib.hid (valid_stop hlt (by rw [HO.out]; exact okNext_diff (x := x) (by rw [← List.take_append_drop (jn + 1) (l0.take k), List.take_take, Nat.min_eq_left (by omega), HT.out]; simp) HE.out (fun h => he1 h.1)))
                      clear he1
                      go_wp2_with fail
                      go_quiet (fail)
                      go_wp2_with fail
                      go_ret
                      exact ⟨by rw [HV.out]; rfl, pw_below_drewN (Below.trans HW.out (HR.out.2.mono HW.out.size)) _⟩
                  · have ne : (x.f0 == o.f0) = false := beq_eq_false_iff_ne.2 he
                    have ne' : decide (x.f0 = o.f0) = false := decide_eq_false he
                    have HE := Lib.hid he
                    clear he
                    go_wp2_with fail
                    go_quiet (fail)
                    go_wp2_with fail
                    go_quiet (fail)
                    go_wp2_with fail
                    go_roundw
                    case rel =>
                      refine ⟨jn + 1, by omega, ?_, by go_num, ?_, (by repeat (first | exact HR.out.2 | apply pw_below_drewN))⟩
                      · rw [HT.out, newIn_snoc, HBN.out]
                        simp [HE.out]
                      · rw [HT.out]
                        intro y hy hyo
                        rcases List.mem_append.1 hy with hy | hy
                        · exact HR.out.1 y hy hyo
                        · rw [List.mem_singleton.1 hy] at hyo
                          exact absurd hyo HE.out
                    case measure => simp [intOf]; omega
                | false =>
                  by_cases he : x.f0 = o.f0
                  · rw [he] at x0
                    have HE := Lib.hid he
                    clear he
                    by_cases he1 : x.f1 = o.f1
                    · rw [he1] at x1
                      have HE1 := Lib.hid he1
                      clear he1
                      by_cases he2 : x.f2 = o.f2
                      · rw [he2] at x2
                        have HE2 := Lib.hid he2
                        clear he2
                        go_wp2_with fail
                        go_quiet (fail)
                        go_wp2_with fail
                        go_quiet (fail)
                        go_wp2_with fail
                        go_roundw
                        case rel =>
                          refine ⟨jn + 1, by omega, ?_, by go_num, ?_, (by repeat (first | exact HR.out.2 | apply pw_below_drewN))⟩
                          · rw [HT.out, newIn_snoc, HBN.out, HE.out]
                            simp
                          · rw [HT.out]
                            intro y hy hyo
                            rcases List.mem_append.1 hy with hy | hy
                            · exact HR.out.1 y hy hyo
                            · rw [List.mem_singleton.1 hy]
                              exact ⟨HE1.out, HE2.out⟩
                        case measure => simp [intOf]; omega
                      · have ne : ¬ x.f2.toList = o.f2.toList := fun h => he2 (str_eq.1 h)
                        have ne' : (x.f2.toList == o.f2.toList) = false := beq_eq_false_iff_ne.2 ne
                        have HV := Lib.hid (valid_stop hlt (by rw [HO.out]; exact okNext_diff (x := x) (by rw [← List.take_append_drop (jn + 1) (l0.take k), List.take_take, Nat.min_eq_left (by omega), HT.out]; simp) HE.out (fun h => he2 h.2)))
                        clear he2
                        go_wp2_with fail
                        go_quiet (fail)
                        go_wp2_with fail
                        go_ret
                        exact ⟨by rw [HV.out]; rfl, pw_below_drewN (Below.trans HW.out (HR.out.2.mono HW.out.size)) _⟩
                    · have ne : ¬ x.f1.toList = o.f1.toList := fun h => he1 (str_eq.1 h)
                      have ne' : (x.f1.toList == o.f1.toList) = false := beq_eq_false_iff_ne.2 ne
                      have HV := Lib.hid (valid_stop hlt (by rw [HO.out]; exact okNext_diff (x := x) (by rw [← List.take_append_drop (jn + 1) (l0.take k), List.take_take, Nat.min_eq_left (by omega), HT.out]; simp) HE.out (fun h => he1 h.1)))
                      clear he1
                      go_wp2_with fail
                      go_quiet (fail)
                      go_wp2_with fail
                      go_ret
                      exact ⟨by rw [HV.out]; rfl, pw_below_drewN (Below.trans HW.out (HR.out.2.mono HW.out.size)) _⟩
                  · have ne : (x.f0 == o.f0) = false := beq_eq_false_iff_ne.2 he
                    have ne' : decide (x.f0 = o.f0) = false := decide_eq_false he
                    have HE := Lib.hid he
                    clear he
                    go_wp2_with fail
                    go_quiet (fail)
                    go_wp2_with fail
                    go_quiet (fail)
                    go_wp2_with fail
                    go_roundw
                    case rel =>
                      refine ⟨jn + 1, by omega, ?_, by go_num, ?_, (by repeat (first | exact HR.out.2 | apply pw_below_drewN))⟩
                      · rw [HT.out, newIn_snoc, HBN.out]
                        simp [HE.out]
                      · rw [HT.out]
                        intro y hy hyo
                        rcases List.mem_append.1 hy with hy | hy
                        · exact HR.out.1 y hy hyo
                        · rw [List.mem_singleton.1 hy] at hyo
                          exact absurd hyo HE.out
                    case measure => simp [intOf]; omega
              · obtain rfl : jn = k := by omega
                clear hjk
                have HBN := Lib.hid hb
                rw [hb]
                clear hb
                have a1 := pw_cell_below HR.out.2 HOW.out.2.1
                cases b with
                | true =>
                  have okn := Lib.hid (okNext_new HFF.out HLL.out (newIn_iff.1 HBN.out))
                  have HCR := Lib.hid (Kd.C_below HC.out (Below.trans HW.out (HR.out.2.mono HW.out.size)))
                  have hnt := nums_take hlt o.f1
                  rw [HO.out, HBN.out, if_pos ⟨rfl, rfl⟩] at hnt
                  have hle : nums o.f1 [] (l0.take jn) ≤ 400 := Nat.le_trans (nums_le _ _ _) (by rw [List.length_take]; omega)
                  generalize hN : nums o.f1 [] (l0.take jn) = nn at *
                  generalize hM : nums o.f1 [] (l0.take (jn + 1)) = mm at *
                  have HN := Lib.hid hN
                  have HM := Lib.hid hM
                  have HNM := Lib.hid hnt
                  clear hN hM hnt
                  have z1 : (0 : Int) ≤ (jn : Int) + 1 := by omega
                  have z2 : (jn : Int) + 1 ≤ (c0 : Int) := by have := HL.out; omega
                  have z3 : ((jn : Int) + 1).toNat = jn + 1 := by omega
                  have z4 : IntKind.i64.wrap ((jn : Int) + 1) = (jn : Int) + 1 := IntWalk.i64_in _ (by omega)
                  by_cases h16 : mm ≤ 16
                  · have z5 : ¬ (16 : Int) < (mm : Int) := by omega
                    go_wp2_with fail
                    refine start_ (n := 14) (S := fun W => Below wr.heap.size wr W) (ds := []) #[false, false, false, false, false, false, false, false, false, false, false, false, false, false] (by kernel_rfl) rfl rfl (below_drew1 (Below.refl _ _)) (fun hHeld => ?_)
                    refine pure_ (i := 0) (N := (some 95)) (v := ?_) (a' := ?_) #[true, false, false, false, false, false, false, false, false, false, false, false, false, false] rfl rfl (by kernel_rfl) (fun _ _ _ h => h) (Or.inl ⟨by rfl, ?_⟩) ?_ ?_
                    rotate_left
                    · intro w'
                      go_simp
                      with_reducible rfl
                    rotate_left
                    · simp only [Act.put, List.setIfInBounds_toArray, List.set_cons_zero, List.set_cons_succ, i64_w, i32_w]
                      rfl
                    refine pure_ (i := 1) (N := (some 96)) (v := ?_) (a' := ?_) #[true, true, false, false, false, false, false, false, false, false, false, false, false, false] rfl rfl (by kernel_rfl) (fun _ _ _ h => h) (Or.inl ⟨by rfl, ?_⟩) ?_ ?_
                    rotate_left
                    · intro w'
                      go_simp
                      with_reducible rfl
                    rotate_left
                    · simp only [Act.put, List.setIfInBounds_toArray, List.set_cons_zero, List.set_cons_succ, i64_w, i32_w]
                      rfl
                    refine pure_ (i := 2) (N := (some 97)) (v := ?_) (a' := ?_) #[true, true, true, false, false, false, false, false, false, false, false, false, false, false] rfl rfl (by kernel_rfl) (fun _ _ _ h => h) (Or.inl ⟨by rfl, ?_⟩) ?_ ?_
                    rotate_left
                    · intro w'
                      go_simp
                      with_reducible rfl
                    rotate_left
                    · simp only [Act.put, List.setIfInBounds_toArray, List.set_cons_zero, List.set_cons_succ, i64_w, i32_w]
                      rfl
                    refine pure_ (i := 3) (N := (some 98)) (v := ?_) (a' := ?_) #[true, true, true, true, false, false, false, false, false, false, false, false, false, false] rfl rfl (by kernel_rfl) (fun _ _ _ h => h) (Or.inl ⟨by rfl, ?_⟩) ?_ ?_
                    rotate_left
                    · intro w'
                      go_simp
                      with_reducible rfl
                    rotate_left
                    · simp only [Act.put, List.setIfInBounds_toArray, List.set_cons_zero, List.set_cons_succ, i64_w, i32_w]
                      rfl
                    refine pure_ (i := 4) (N := (some 99)) (v := ?_) (a' := ?_) #[true, true, true, true, true, false, false, false, false, false, false, false, false, false] rfl rfl (by kernel_rfl) (fun _ _ _ h => h) (Or.inl ⟨by rfl, ?_⟩) ?_ ?_
                    rotate_left
                    · intro w'
                      go_simp
                      with_reducible rfl
                    rotate_left
                    · simp only [Act.put, List.setIfInBounds_toArray, List.set_cons_zero, List.set_cons_succ, i64_w, i32_w]
                      rfl
                    refine pure_ (i := 5) (N := (some 100)) (v := ?_) (a' := ?_) #[true, true, true, true, true, true, false, false, false, false, false, false, false, false] rfl rfl (by kernel_rfl) (fun _ _ _ h => h) (Or.inl ⟨by rfl, ?_⟩) ?_ ?_
                    rotate_left
                    · intro w'
                      go_simp
                      with_reducible rfl
                    rotate_left
                    · simp only [Act.put, List.setIfInBounds_toArray, List.set_cons_zero, List.set_cons_succ, i64_w, i32_w]
                      rfl
                    refine pure_ (i := 6) (N := (some 101)) (v := ?_) (a' := ?_) #[true, true, true, true, true, true, true, false, false, false, false, false, false, false] rfl rfl (by kernel_rfl) (fun _ _ _ h => h) (Or.inl ⟨by rfl, ?_⟩) ?_ ?_
                    rotate_left
                    · intro w'
                      go_simp
                      with_reducible rfl
                    rotate_left
                    · simp only [Act.put, List.setIfInBounds_toArray, List.set_cons_zero, List.set_cons_succ, i64_w, i32_w]
                      rfl
                    refine pure_ (i := 7) (N := (some 102)) (v := ?_) (a' := ?_) #[true, true, true, true, true, true, true, true, false, false, false, false, false, false] rfl rfl (by kernel_rfl) (fun _ _ _ h => h) (Or.inl ⟨by rfl, ?_⟩) ?_ ?_
                    rotate_left
                    · intro w'
                      go_simp
                      with_reducible rfl
                    rotate_left
                    · simp only [Act.put, List.setIfInBounds_toArray, List.set_cons_zero, List.set_cons_succ, i64_w, i32_w]
                      rfl
                    refine pure_ (i := 8) (N := (some 103)) (v := ?_) (a' := ?_) #[true, true, true, true, true, true, true, true, true, false, false, false, false, false] rfl rfl (by kernel_rfl) (fun _ _ _ h => h) (Or.inl ⟨by rfl, ?_⟩) ?_ ?_
                    rotate_left
                    · intro w'
                      go_simp
                      with_reducible rfl
                    rotate_left
                    · simp only [Act.put, List.setIfInBounds_toArray, List.set_cons_zero, List.set_cons_succ, i64_w, i32_w]
                      rfl
                    refine pure_ (i := 9) (N := (some 104)) (v := ?_) (a' := ?_) #[true, true, true, true, true, true, true, true, true, true, false, false, false, false] rfl rfl (by kernel_rfl) (fun _ _ _ h => h) (Or.inl ⟨by rfl, ?_⟩) ?_ ?_
                    rotate_left
                    · intro w'
                      go_simp
                      with_reducible rfl
                    rotate_left
                    · simp only [Act.put, List.setIfInBounds_toArray, List.set_cons_zero, List.set_cons_succ, i64_w, i32_w]
                      rfl
                    refine take_ (i := 10) (N := (some 105)) (v := ?_) (a' := ?_) #[true, true, true, true, true, true, true, true, true, true, true, false, false, false] rfl rfl (by kernel_rfl) (fun _ _ _ h => h) (Or.inl ⟨by rfl, ?_⟩) hHeld ?_ ?_
                    rotate_left
                    · rintro w' sb
                      have c1 := pw_cell_below sb a1
                      clear sb
                      go_simp
                      with_reducible rfl
                    rotate_left
                    · simp only [Act.put, List.setIfInBounds_toArray, List.set_cons_zero, List.set_cons_succ, i64_w, i32_w]
                      rfl
                    refine one_ (i := 11) (N := (some 106)) #[true, true, true, true, true, true, true, true, true, true, true, true, false, false] rfl rfl (by kernel_rfl) (by decide) (fun K hK => ?_)
                    refine goes_ Try.func25 (by kernel_rfl) rfl #[.slice (some ad) (jn + 1) c0, .string o.f1] (by rfl) rfl rfl (by (try simp only [List.map_toArray, List.map_cons, List.map_nil]); first | done | rfl) ?_
                    with_reducible refine (numsC _ _ l0 _ (jn + 1) hlen (by omega) _ (Kd.C_below HCR.out hHeld) HL.out).mono ?_
                    rintro e w' ⟨rfl, hb⟩
                    refine ⟨_, rfl, ?_⟩
                    refine hK.out _ _ (below_step hHeld hb) (fun hHeld => ?_)
                    clear hK K
                    clear hb
                    rw [HM.out]
                    refine norm_ (a' := ?_) ?_ ?_
                    rotate_left
                    · show Act.put _ (some 106) _ = _
                      simp only [Act.put, List.setIfInBounds_toArray, List.set_cons_zero, List.set_cons_succ, i64_w, i32_w]
                      rfl
                    refine pure_ (i := 12) (N := (some 107)) (v := ?_) (a' := ?_) #[true, true, true, true, true, true, true, true, true, true, true, true, true, false] rfl rfl (by kernel_rfl) (fun _ _ _ h => h) (Or.inl ⟨by rfl, ?_⟩) ?_ ?_
                    rotate_left
                    · intro w'
                      go_simp
                      with_reducible rfl
                    rotate_left
                    · simp only [Act.put, List.setIfInBounds_toArray, List.set_cons_zero, List.set_cons_succ, i64_w, i32_w]
                      rfl
                    refine pure_ (i := 13) (N := (some 108)) (v := ?_) (a' := ?_) #[true, true, true, true, true, true, true, true, true, true, true, true, true, true] rfl rfl (by kernel_rfl) (fun _ _ _ h => h) (Or.inl ⟨by rfl, ?_⟩) ?_ ?_
                    rotate_left
                    · intro w'
                      go_simp
                      with_reducible rfl
                    rotate_left
                    · simp only [Act.put, List.setIfInBounds_toArray, List.set_cons_zero, List.set_cons_succ, i64_w, i32_w]
                      rfl
                    refine done_ (by kernel_rfl) ?_
                    go_wp2_with fail
                    go_roundw
                    case rel => exact ⟨jn + 1, by omega, by go_num, validFrom_next hlt HI.out.1 (by rw [HO.out, okn.out]; exact decide_eq_true (by have := HNM.out; omega)), Below.trans HW.out (Below.trans HR.out.2 (hHeld.mono HR.out.2.size) |>.mono HW.out.size)⟩
                    case measure => simp [intOf]; omega
                  · have z5 : (16 : Int) < (mm : Int) := by omega
                    have HV := Lib.hid (valid_stop hlt (by rw [HO.out, okn.out]; exact decide_eq_false (by have := HNM.out; omega)))
                    go_wp2_with fail
                    refine start_ (n := 14) (S := fun W => Below wr.heap.size wr W) (ds := []) #[false, false, false, false, false, false, false, false, false, false, false, false, false, false] (by kernel_rfl) rfl rfl (below_drew1 (Below.refl _ _)) (fun hHeld => ?_)
                    refine pure_ (i := 0) (N := (some 95)) (v := ?_) (a' := ?_) #[true, false, false, false, false, false, false, false, false, false, false, false, false, false] rfl rfl (by kernel_rfl) (fun _ _ _ h => h) (Or.inl ⟨by rfl, ?_⟩) ?_ ?_
                    rotate_left
                    · intro w'
                      go_simp
                      with_reducible rfl
                    rotate_left
                    · simp only [Act.put, List.setIfInBounds_toArray, List.set_cons_zero, List.set_cons_succ, i64_w, i32_w]
                      rfl
                    refine pure_ (i := 1) (N := (some 96)) (v := ?_) (a' := ?_) #[true, true, false, false, false, false, false, false, false, false, false, false, false, false] rfl rfl (by kernel_rfl) (fun _ _ _ h => h) (Or.inl ⟨by rfl, ?_⟩) ?_ ?_
                    rotate_left
                    · intro w'
                      go_simp
                      with_reducible rfl
                    rotate_left
                    · simp only [Act.put, List.setIfInBounds_toArray, List.set_cons_zero, List.set_cons_succ, i64_w, i32_w]
                      rfl
                    refine pure_ (i := 2) (N := (some 97)) (v := ?_) (a' := ?_) #[true, true, true, false, false, false, false, false, false, false, false, false, false, false] rfl rfl (by kernel_rfl) (fun _ _ _ h => h) (Or.inl ⟨by rfl, ?_⟩) ?_ ?_
                    rotate_left
                    · intro w'
                      go_simp
                      with_reducible rfl
                    rotate_left
                    · simp only [Act.put, List.setIfInBounds_toArray, List.set_cons_zero, List.set_cons_succ, i64_w, i32_w]
                      rfl
                    refine pure_ (i := 3) (N := (some 98)) (v := ?_) (a' := ?_) #[true, true, true, true, false, false, false, false, false, false, false, false, false, false] rfl rfl (by kernel_rfl) (fun _ _ _ h => h) (Or.inl ⟨by rfl, ?_⟩) ?_ ?_
                    rotate_left
                    · intro w'
                      go_simp
                      with_reducible rfl
                    rotate_left
                    · simp only [Act.put, List.setIfInBounds_toArray, List.set_cons_zero, List.set_cons_succ, i64_w, i32_w]
                      rfl
                    refine pure_ (i := 4) (N := (some 99)) (v := ?_) (a' := ?_) #[true, true, true, true, true, false, false, false, false, false, false, false, false, false] rfl rfl (by kernel_rfl) (fun _ _ _ h => h) (Or.inl ⟨by rfl, ?_⟩) ?_ ?_
                    rotate_left
                    · intro w'
                      go_simp
                      with_reducible rfl
                    rotate_left
                    · simp only [Act.put, List.setIfInBounds_toArray, List.set_cons_zero, List.set_cons_succ, i64_w, i32_w]
                      rfl
                    refine pure_ (i := 5) (N := (some 100)) (v := ?_) (a' := ?_) #[true, true, true, true, true, true, false, false, false, false, false, false, false, false] rfl rfl (by kernel_rfl) (fun _ _ _ h => h) (Or.inl ⟨by rfl, ?_⟩) ?_ ?_
                    rotate_left
                    · intro w'
                      go_simp
                      with_reducible rfl
                    rotate_left
                    · simp only [Act.put, List.setIfInBounds_toArray, List.set_cons_zero, List.set_cons_succ, i64_w, i32_w]
                      rfl
                    refine pure_ (i := 6) (N := (some 101)) (v := ?_) (a' := ?_) #[true, true, true, true, true, true, true, false, false, false, false, false, false, false] rfl rfl (by kernel_rfl) (fun _ _ _ h => h) (Or.inl ⟨by rfl, ?_⟩) ?_ ?_
                    rotate_left
                    · intro w'
                      go_simp
                      with_reducible rfl
                    rotate_left
                    · simp only [Act.put, List.setIfInBounds_toArray, List.set_cons_zero, List.set_cons_succ, i64_w, i32_w]
                      rfl
                    refine pure_ (i := 7) (N := (some 102)) (v := ?_) (a' := ?_) #[true, true, true, true, true, true, true, true, false, false, false, false, false, false] rfl rfl (by kernel_rfl) (fun _ _ _ h => h) (Or.inl ⟨by rfl, ?_⟩) ?_ ?_
                    rotate_left
                    · intro w'
                      go_simp
                      with_reducible rfl
                    rotate_left
                    · simp only [Act.put, List.setIfInBounds_toArray, List.set_cons_zero, List.set_cons_succ, i64_w, i32_w]
                      rfl
                    refine pure_ (i := 8) (N := (some 103)) (v := ?_) (a' := ?_) #[true, true, true, true, true, true, true, true, true, false, false, false, false, false] rfl rfl (by kernel_rfl) (fun _ _ _ h => h) (Or.inl ⟨by rfl, ?_⟩) ?_ ?_
                    rotate_left
                    · intro w'
                      go_simp
                      with_reducible rfl
                    rotate_left
                    · simp only [Act.put, List.setIfInBounds_toArray, List.set_cons_zero, List.set_cons_succ, i64_w, i32_w]
                      rfl
                    refine pure_ (i := 9) (N := (some 104)) (v := ?_) (a' := ?_) #[true, true, true, true, true, true, true, true, true, true, false, false, false, false] rfl rfl (by kernel_rfl) (fun _ _ _ h => h) (Or.inl ⟨by rfl, ?_⟩) ?_ ?_
                    rotate_left
                    · intro w'
                      go_simp
                      with_reducible rfl
                    rotate_left
                    · simp only [Act.put, List.setIfInBounds_toArray, List.set_cons_zero, List.set_cons_succ, i64_w, i32_w]
                      rfl
                    refine take_ (i := 10) (N := (some 105)) (v := ?_) (a' := ?_) #[true, true, true, true, true, true, true, true, true, true, true, false, false, false] rfl rfl (by kernel_rfl) (fun _ _ _ h => h) (Or.inl ⟨by rfl, ?_⟩) hHeld ?_ ?_
                    rotate_left
                    · rintro w' sb
                      have c1 := pw_cell_below sb a1
                      clear sb
                      go_simp
                      with_reducible rfl
                    rotate_left
                    · simp only [Act.put, List.setIfInBounds_toArray, List.set_cons_zero, List.set_cons_succ, i64_w, i32_w]
                      rfl
                    refine one_ (i := 11) (N := (some 106)) #[true, true, true, true, true, true, true, true, true, true, true, true, false, false] rfl rfl (by kernel_rfl) (by decide) (fun K hK => ?_)
                    refine goes_ Try.func25 (by kernel_rfl) rfl #[.slice (some ad) (jn + 1) c0, .string o.f1] (by rfl) rfl rfl (by (try simp only [List.map_toArray, List.map_cons, List.map_nil]); first | done | rfl) ?_
                    with_reducible refine (numsC _ _ l0 _ (jn + 1) hlen (by omega) _ (Kd.C_below HCR.out hHeld) HL.out).mono ?_
                    rintro e w' ⟨rfl, hb⟩
                    refine ⟨_, rfl, ?_⟩
                    refine hK.out _ _ (below_step hHeld hb) (fun hHeld => ?_)
                    clear hK K
                    clear hb
                    rw [HM.out]
                    refine norm_ (a' := ?_) ?_ ?_
                    rotate_left
                    · show Act.put _ (some 106) _ = _
                      simp only [Act.put, List.setIfInBounds_toArray, List.set_cons_zero, List.set_cons_succ, i64_w, i32_w]
                      rfl
                    refine pure_ (i := 12) (N := (some 107)) (v := ?_) (a' := ?_) #[true, true, true, true, true, true, true, true, true, true, true, true, true, false] rfl rfl (by kernel_rfl) (fun _ _ _ h => h) (Or.inl ⟨by rfl, ?_⟩) ?_ ?_
                    rotate_left
                    · intro w'
                      go_simp
                      with_reducible rfl
                    rotate_left
                    · simp only [Act.put, List.setIfInBounds_toArray, List.set_cons_zero, List.set_cons_succ, i64_w, i32_w]
                      rfl
                    refine pure_ (i := 13) (N := (some 108)) (v := ?_) (a' := ?_) #[true, true, true, true, true, true, true, true, true, true, true, true, true, true] rfl rfl (by kernel_rfl) (fun _ _ _ h => h) (Or.inl ⟨by rfl, ?_⟩) ?_ ?_
                    rotate_left
                    · intro w'
                      go_simp
                      with_reducible rfl
                    rotate_left
                    · simp only [Act.put, List.setIfInBounds_toArray, List.set_cons_zero, List.set_cons_succ, i64_w, i32_w]
                      rfl
                    refine done_ (by kernel_rfl) ?_
                    go_wp2_with fail
                    go_ret
                    exact ⟨by rw [HV.out]; rfl, Below.trans HW.out (Below.trans HR.out.2 (hHeld.mono HR.out.2.size) |>.mono HW.out.size)⟩
                | false =>
                  have hex : ∃ x ∈ l0.take jn, x.f0 = o.f0 := by
                    refine Classical.byContradiction fun hh => ?_
                    have := newIn_iff.2 (fun x hx he => hh ⟨x, hx, he⟩)
                    rw [HBN.out] at this
                    cases this
                  obtain ⟨x, hx, he⟩ := hex
                  have okn := Lib.hid (okNext_old HI.out.1 HFF.out HLL.out hx he (HR.out.1 x hx he))
                  clear hx he a1
                  go_wp2_with fail
                  go_quiet (fail)
                  go_wp2_with fail
                  go_roundw
                  case rel => exact ⟨jn + 1, by omega, by go_num, validFrom_next hlt HI.out.1 (by rw [HO.out, okn.out]), pw_below_drewN (Below.trans HW.out (HR.out.2.mono HW.out.size)) _⟩
                  case measure => simp [intOf]; omega
          · have hz : decide (0 < k) = true := decide_eq_true (by omega)
            have hk1 : k - 1 < l0.length := by omega
            obtain ⟨ad', ead, q0, q1, q2, q3, q4, q5, q6, q7⟩ := od_cells HCW.out hk1
            cases ead
            generalize hp : odAt l0 (k - 1) = p at *
            have HP := Lib.hid hp
            have z1 : (0 : Int) ≤ (k : Int) - 1 := by omega
            have z2 : (k : Int) - 1 < (l0.length : Int) := by omega
            have z6 : (1 : Int) ≤ (k : Int) := by omega
            have z3 : ((k : Int) - 1).toNat = k - 1 := by omega
            have z4 : IntKind.i64.wrap ((k : Int) - 1) = (k : Int) - 1 := IntWalk.i64_in _ (by omega)
            clear hp q0 q1 q2 q3 q5 q6 q7 hk1
            by_cases hle : p.f4 ≤ o.f4
            · have HLL := Lib.hid (show lastLe (l0.take k) o = true from by rw [← HO.out, lastLe_at hlt]; exact decide_eq_true (fun h => by rw [HP.out, HO.out]; exact hle))
              have z5 : decide (o.f4 < p.f4) = false := decide_eq_false (by omega)
              clear hle hk0
              go_wp2_with fail
              refine start_ (n := 24) (S := fun W => Below wr.heap.size wr W) (ds := []) #[false, false, false, false, false, false, false, false, false, false, false, false, false, false, false, false, false, false, false, false, false, false, false, false] (by kernel_rfl) rfl rfl (below_drew1 (Below.refl _ _)) (fun hHeld => ?_)
              refine pure_ (i := 0) (N := (some 15)) (v := ?_) (a' := ?_) #[true, false, false, false, false, false, false, false, false, false, false, false, false, false, false, false, false, false, false, false, false, false, false, false] rfl rfl (by kernel_rfl) (fun _ _ _ h => h) (Or.inl ⟨by rfl, ?_⟩) ?_ ?_
              rotate_left
              · intro w'
                go_simp
                with_reducible rfl
              rotate_left
              · simp only [Act.put, List.setIfInBounds_toArray, List.set_cons_zero, List.set_cons_succ, i64_w, i32_w]
                rfl
              refine pure_ (i := 1) (N := (some 16)) (v := ?_) (a' := ?_) #[true, true, false, false, false, false, false, false, false, false, false, false, false, false, false, false, false, false, false, false, false, false, false, false] rfl rfl (by kernel_rfl) (fun _ _ _ h => h) (Or.inl ⟨by rfl, ?_⟩) ?_ ?_
              rotate_left
              · intro w'
                go_simp
                with_reducible rfl
              rotate_left
              · simp only [Act.put, List.setIfInBounds_toArray, List.set_cons_zero, List.set_cons_succ, i64_w, i32_w]
                rfl
              refine pure_ (i := 2) (N := (some 17)) (v := ?_) (a' := ?_) #[true, true, true, false, false, false, false, false, false, false, false, false, false, false, false, false, false, false, false, false, false, false, false, false] rfl rfl (by kernel_rfl) (fun _ _ _ h => h) (Or.inl ⟨by rfl, ?_⟩) ?_ ?_
              rotate_left
              · intro w'
                go_simp
                with_reducible rfl
              rotate_left
              · simp only [Act.put, List.setIfInBounds_toArray, List.set_cons_zero, List.set_cons_succ, i64_w, i32_w]
                rfl
              refine take_ (i := 3) (N := (some 18)) (v := ?_) (a' := ?_) #[true, true, true, true, false, false, false, false, false, false, false, false, false, false, false, false, false, false, false, false, false, false, false, false] rfl rfl (by kernel_rfl) (fun _ _ _ h => h) (Or.inl ⟨by rfl, ?_⟩) hHeld ?_ ?_
              rotate_left
              · rintro w' sb
                have c0 := pw_cell_below sb a0
                have c1 := pw_cell_below sb a1
                have c2 := pw_cell_below sb a2
                have c3 := pw_cell_below sb a3
                have c4 := pw_cell_below sb a4
                have c5 := pw_cell_below sb a5
                have c6 := pw_cell_below sb a6
                have c7 := pw_cell_below sb a7
                have d4 := pw_cell_below sb q4
                clear sb
                go_simp
                with_reducible rfl
              rotate_left
              · simp only [Act.put, List.setIfInBounds_toArray, List.set_cons_zero, List.set_cons_succ, i64_w, i32_w]
                rfl
              refine one_ (i := 4) (N := (some 19)) #[true, true, true, true, true, false, false, false, false, false, false, false, false, false, false, false, false, false, false, false, false, false, false, false] rfl rfl (by kernel_rfl) (by decide) (fun K hK => ?_)
              refine goes_ Try.func24 (by kernel_rfl) rfl #[odV o] (by rfl) rfl rfl (by (try simp only [List.map_toArray, List.map_cons, List.map_nil]); first | done | rfl) ?_
              with_reducible refine (HF.out _).mono ?_
              rintro e w' ⟨rfl, hb⟩
              refine ⟨_, rfl, ?_⟩
              refine hK.out _ _ (below_step hHeld hb) (fun hHeld => ?_)
              clear hK K
              clear hb
              refine norm_ (a' := ?_) ?_ ?_
              rotate_left
              · show Act.put _ (some 19) _ = _
                simp only [Act.put, List.setIfInBounds_toArray, List.set_cons_zero, List.set_cons_succ, i64_w, i32_w]
                rfl
              refine pure_ (i := 5) (N := (some 20)) (v := ?_) (a' := ?_) #[true, true, true, true, true, true, false, false, false, false, false, false, false, false, false, false, false, false, false, false, false, false, false, false] rfl rfl (by kernel_rfl) (fun _ _ _ h => h) (Or.inl ⟨by rfl, ?_⟩) ?_ ?_
              rotate_left
              · intro w'
                go_simp
                with_reducible rfl
              rotate_left
              · simp only [Act.put, List.setIfInBounds_toArray, List.set_cons_zero, List.set_cons_succ, i64_w, i32_w]
                rfl
              refine pure_ (i := 6) (N := (some 21)) (v := ?_) (a' := ?_) #[true, true, true, true, true, true, true, false, false, false, false, false, false, false, false, false, false, false, false, false, false, false, false, false] rfl rfl (by kernel_rfl) (fun _ _ _ h => h) (Or.inl ⟨by rfl, ?_⟩) ?_ ?_
              rotate_left
              · intro w'
                go_simp
                with_reducible rfl
              rotate_left
              · simp only [Act.put, List.setIfInBounds_toArray, List.set_cons_zero, List.set_cons_succ, i64_w, i32_w]
                rfl
              refine pure_ (i := 7) (N := (some 22)) (v := ?_) (a' := ?_) #[true, true, true, true, true, true, true, true, false, false, false, false, false, false, false, false, false, false, false, false, false, false, false, false] rfl rfl (by kernel_rfl) (fun _ _ _ h => h) (Or.inl ⟨by rfl, ?_⟩) ?_ ?_
              rotate_left
              · intro w'
                go_simp
                with_reducible rfl
              rotate_left
              · simp only [Act.put, List.setIfInBounds_toArray, List.set_cons_zero, List.set_cons_succ, i64_w, i32_w]
                rfl
              refine pure_ (i := 8) (N := (some 23)) (v := ?_) (a' := ?_) #[true, true, true, true, true, true, true, true, true, false, false, false, false, false, false, false, false, false, false, false, false, false, false, false] rfl rfl (by kernel_rfl) (fun _ _ _ h => h) (Or.inl ⟨by rfl, ?_⟩) ?_ ?_
              rotate_left
              · intro w'
                go_simp
                with_reducible rfl
              rotate_left
              · simp only [Act.put, List.setIfInBounds_toArray, List.set_cons_zero, List.set_cons_succ, i64_w, i32_w]
                rfl
              refine pure_ (i := 9) (N := (some 24)) (v := ?_) (a' := ?_) #[true, true, true, true, true, true, true, true, true, true, false, false, false, false, false, false, false, false, false, false, false, false, false, false] rfl rfl (by kernel_rfl) (fun _ _ _ h => h) (Or.inl ⟨by rfl, ?_⟩) ?_ ?_
              rotate_left
              · intro w'
                go_simp
                with_reducible rfl
              rotate_left
              · simp only [Act.put, List.setIfInBounds_toArray, List.set_cons_zero, List.set_cons_succ, i64_w, i32_w]
                rfl
              refine pure_ (i := 10) (N := (some 25)) (v := ?_) (a' := ?_) #[true, true, true, true, true, true, true, true, true, true, true, false, false, false, false, false, false, false, false, false, false, false, false, false] rfl rfl (by kernel_rfl) (fun _ _ _ h => h) (Or.inl ⟨by rfl, ?_⟩) ?_ ?_
              rotate_left
              · intro w'
                go_simp
                with_reducible rfl
              rotate_left
              · simp only [Act.put, List.setIfInBounds_toArray, List.set_cons_zero, List.set_cons_succ, i64_w, i32_w]
                rfl
              refine pure_ (i := 11) (N := (some 26)) (v := ?_) (a' := ?_) #[true, true, true, true, true, true, true, true, true, true, true, true, false, false, false, false, false, false, false, false, false, false, false, false] rfl rfl (by kernel_rfl) (fun _ _ _ h => h) (Or.inl ⟨by rfl, ?_⟩) ?_ ?_
              rotate_left
              · intro w'
                go_simp
                with_reducible rfl
              rotate_left
              · simp only [Act.put, List.setIfInBounds_toArray, List.set_cons_zero, List.set_cons_succ, i64_w, i32_w]
                rfl
              refine pure_ (i := 12) (N := (some 27)) (v := ?_) (a' := ?_) #[true, true, true, true, true, true, true, true, true, true, true, true, true, false, false, false, false, false, false, false, false, false, false, false] rfl rfl (by kernel_rfl) (fun _ _ _ h => h) (Or.inl ⟨by rfl, ?_⟩) ?_ ?_
              rotate_left
              · intro w'
                go_simp
                with_reducible rfl
              rotate_left
              · simp only [Act.put, List.setIfInBounds_toArray, List.set_cons_zero, List.set_cons_succ, i64_w, i32_w]
                rfl
              refine pure_ (i := 13) (N := (some 28)) (v := ?_) (a' := ?_) #[true, true, true, true, true, true, true, true, true, true, true, true, true, true, false, false, false, false, false, false, false, false, false, false] rfl rfl (by kernel_rfl) (fun _ _ _ h => h) (Or.inl ⟨by rfl, ?_⟩) ?_ ?_
              rotate_left
              · intro w'
                go_simp
                with_reducible rfl
              rotate_left
              · simp only [Act.put, List.setIfInBounds_toArray, List.set_cons_zero, List.set_cons_succ, i64_w, i32_w]
                rfl
              refine pure_ (i := 14) (N := (some 29)) (v := ?_) (a' := ?_) #[true, true, true, true, true, true, true, true, true, true, true, true, true, true, true, false, false, false, false, false, false, false, false, false] rfl rfl (by kernel_rfl) (fun _ _ _ h => h) (Or.inl ⟨by rfl, ?_⟩) ?_ ?_
              rotate_left
              · intro w'
                go_simp
                with_reducible rfl
              rotate_left
              · simp only [Act.put, List.setIfInBounds_toArray, List.set_cons_zero, List.set_cons_succ, i64_w, i32_w]
                rfl
              refine take_ (i := 15) (N := (some 30)) (v := ?_) (a' := ?_) #[true, true, true, true, true, true, true, true, true, true, true, true, true, true, true, true, false, false, false, false, false, false, false, false] rfl rfl (by kernel_rfl) (fun _ _ _ h => h) (Or.inl ⟨by rfl, ?_⟩) hHeld ?_ ?_
              rotate_left
              · rintro w' sb
                have c0 := pw_cell_below sb a0
                have c1 := pw_cell_below sb a1
                have c2 := pw_cell_below sb a2
                have c3 := pw_cell_below sb a3
                have c4 := pw_cell_below sb a4
                have c5 := pw_cell_below sb a5
                have c6 := pw_cell_below sb a6
                have c7 := pw_cell_below sb a7
                have d4 := pw_cell_below sb q4
                clear sb
                go_simp
                with_reducible rfl
              rotate_left
              · simp only [Act.put, List.setIfInBounds_toArray, List.set_cons_zero, List.set_cons_succ, i64_w, i32_w]
                rfl
              refine pure_ (i := 16) (N := (some 31)) (v := ?_) (a' := ?_) #[true, true, true, true, true, true, true, true, true, true, true, true, true, true, true, true, true, false, false, false, false, false, false, false] rfl rfl (by kernel_rfl) (fun _ _ _ h => h) (Or.inl ⟨by rfl, ?_⟩) ?_ ?_
              rotate_left
              · intro w'
                go_simp
                with_reducible rfl
              rotate_left
              · simp only [Act.put, List.setIfInBounds_toArray, List.set_cons_zero, List.set_cons_succ, i64_w, i32_w]
                rfl
              refine pure_ (i := 17) (N := (some 32)) (v := ?_) (a' := ?_) #[true, true, true, true, true, true, true, true, true, true, true, true, true, true, true, true, true, true, false, false, false, false, false, false] rfl rfl (by kernel_rfl) (fun _ _ _ h => h) (Or.inl ⟨by rfl, ?_⟩) ?_ ?_
              rotate_left
              · intro w'
                go_simp
                with_reducible rfl
              rotate_left
              · simp only [Act.put, List.setIfInBounds_toArray, List.set_cons_zero, List.set_cons_succ, i64_w, i32_w]
                rfl
              refine pure_ (i := 18) (N := (some 33)) (v := ?_) (a' := ?_) #[true, true, true, true, true, true, true, true, true, true, true, true, true, true, true, true, true, true, true, false, false, false, false, false] rfl rfl (by kernel_rfl) (fun _ _ _ h => h) (Or.inl ⟨by rfl, ?_⟩) ?_ ?_
              rotate_left
              · intro w'
                go_simp
                with_reducible rfl
              rotate_left
              · simp only [Act.put, List.setIfInBounds_toArray, List.set_cons_zero, List.set_cons_succ, i64_w, i32_w]
                rfl
              refine pure_ (i := 19) (N := (some 34)) (v := ?_) (a' := ?_) #[true, true, true, true, true, true, true, true, true, true, true, true, true, true, true, true, true, true, true, true, false, false, false, false] rfl rfl (by kernel_rfl) (fun _ _ _ h => h) (Or.inl ⟨by rfl, ?_⟩) ?_ ?_
              rotate_left
              · intro w'
                go_simp
                with_reducible rfl
              rotate_left
              · simp only [Act.put, List.setIfInBounds_toArray, List.set_cons_zero, List.set_cons_succ, i64_w, i32_w]
                rfl
              refine take_ (i := 20) (N := (some 35)) (v := ?_) (a' := ?_) #[true, true, true, true, true, true, true, true, true, true, true, true, true, true, true, true, true, true, true, true, true, false, false, false] rfl rfl (by kernel_rfl) (fun _ _ _ h => h) (Or.inl ⟨by rfl, ?_⟩) hHeld ?_ ?_
              rotate_left
              · rintro w' sb
                have c0 := pw_cell_below sb a0
                have c1 := pw_cell_below sb a1
                have c2 := pw_cell_below sb a2
                have c3 := pw_cell_below sb a3
                have c4 := pw_cell_below sb a4
                have c5 := pw_cell_below sb a5
                have c6 := pw_cell_below sb a6
                have c7 := pw_cell_below sb a7
                have d4 := pw_cell_below sb q4
                clear sb
                go_simp
                with_reducible rfl
              rotate_left
              · simp only [Act.put, List.setIfInBounds_toArray, List.set_cons_zero, List.set_cons_succ, i64_w, i32_w]
                rfl
              refine pure_ (i := 21) (N := (some 36)) (v := ?_) (a' := ?_) #[true, true, true, true, true, true, true, true, true, true, true, true, true, true, true, true, true, true, true, true, true, true, false, false] rfl rfl (by kernel_rfl) (fun _ _ _ h => h) (Or.inl ⟨by rfl, ?_⟩) ?_ ?_
              rotate_left
              · intro w'
                go_simp
                with_reducible rfl
              rotate_left
              · simp only [Act.put, List.setIfInBounds_toArray, List.set_cons_zero, List.set_cons_succ, i64_w, i32_w]
                rfl
              refine pure_ (i := 22) (N := (some 37)) (v := ?_) (a' := ?_) #[true, true, true, true, true, true, true, true, true, true, true, true, true, true, true, true, true, true, true, true, true, true, true, false] rfl rfl (by kernel_rfl) (fun _ _ _ h => h) (Or.inl ⟨by rfl, ?_⟩) ?_ ?_
              rotate_left
              · intro w'
                go_simp
                with_reducible rfl
              rotate_left
              · simp only [Act.put, List.setIfInBounds_toArray, List.set_cons_zero, List.set_cons_succ, i64_w, i32_w]
                rfl
              refine pure_ (i := 23) (N := (some 38)) (v := ?_) (a' := ?_) #[true, true, true, true, true, true, true, true, true, true, true, true, true, true, true, true, true, true, true, true, true, true, true, true] rfl rfl (by kernel_rfl) (fun _ _ _ h => h) (Or.inl ⟨by rfl, ?_⟩) ?_ ?_
              rotate_left
              · intro w'
                go_simp
                with_reducible rfl
              rotate_left
              · simp only [Act.put, List.setIfInBounds_toArray, List.set_cons_zero, List.set_cons_succ, i64_w, i32_w]
                rfl
              refine done_ (by kernel_rfl) ?_
              clear z1 z2 z3 z4 z5 z6 q4
              go_wp2_with fail
              have HW := Lib.hid (below_step HB.out hHeld)
              have HOW := Lib.hid (And.intro (pw_cell_below hHeld a0) (And.intro (pw_cell_below hHeld a1) (pw_cell_below hHeld a2)))
              obtain ⟨wo, hwo⟩ : ∃ wo : World, wo = w' := ⟨_, rfl⟩
              subst hwo
              clear hHeld a0 a1 a2 a3 a4 a5 a6 a7
              go_loopw [4, 5] (fun f j wr2 => ∃ jn : Nat, jn ≤ k ∧ f = .bool (newIn (l0.take jn) o) ∧ j = .int .i64 jn ∧ RIn l0 wo o jn wr2) (fun _ j _ => k - (intOf j).toNat)
              case atStart => exact ⟨0, Nat.zero_le _, rfl, rfl, by simp, Below.refl _ _⟩
              case round =>
                obtain ⟨jn, hjn, rfl, rfl, hR⟩ := hrel
                have HR := Lib.hid hR
                clear hR
                have hb : ∃ b, newIn (l0.take jn) o = b := ⟨_, rfl⟩
                obtain ⟨b, hb⟩ := hb
                by_cases hjk : jn < k
                · have hjl : jn < l0.length := by omega
                  obtain ⟨adx, eadx, x0, x1, x2, x3, x4, x5, x6, x7⟩ := od_cells (Kd.C_below HC.out (Below.trans HW.out (HR.out.2.mono HW.out.size))) hjl
                  cases eadx
                  have a0 := pw_cell_below HR.out.2 HOW.out.1
                  have a1 := pw_cell_below HR.out.2 HOW.out.2.1
                  have a2 := pw_cell_below HR.out.2 HOW.out.2.2
                  have HT := Lib.hid (take_odAt hjl)
                  generalize hx : odAt l0 jn = x at *
                  have HX := Lib.hid hx
                  have HBN := Lib.hid hb
                  rw [hb]
                  clear hx hb x3 x4 x5 x6 x7
                  cases b with
                  | true =>
                    by_cases he : x.f0 = o.f0
                    · rw [he] at x0
                      have HE := Lib.hid he
                      clear he
                      by_cases he1 : x.f1 = o.f1
                      · rw [he1] at x1
                        have HE1 := Lib.hid he1
                        clear he1
                        by_cases he2 : x.f2 = o.f2
                        · rw [he2] at x2
                          have HE2 := Lib.hid he2
                          clear he2
                          go_wp2_with fail
                          go_quiet (fail)
                          go_wp2_with fail
                          go_quiet (fail)
                          go_wp2_with fail
                          go_roundw
                          case rel =>
                            refine ⟨jn + 1, by omega, ?_, by go_num, ?_, (by repeat (first | exact HR.out.2 | apply pw_below_drewN))⟩
                            · rw [HT.out, newIn_snoc, HBN.out, HE.out]
                              simp
                            · rw [HT.out]
                              intro y hy hyo
                              rcases List.mem_append.1 hy with hy | hy
                              · exact HR.out.1 y hy hyo
                              · rw [List.mem_singleton.1 hy]
                                exact ⟨HE1.out, HE2.out⟩
                          case measure => simp [intOf]; omega
                        · have ne : ¬ x.f2.toList = o.f2.toList := fun h => he2 (str_eq.1 h)
                          have ne' : (x.f2.toList == o.f2.toList) = false := beq_eq_false_iff_ne.2 ne
                          have HV := Lib.hid (valid_stop hlt (by rw [HO.out]; exact okNext_diff (x := x) (by rw [← List.take_append_drop (jn + 1) (l0.take k), List.take_take, Nat.min_eq_left (by omega), HT.out]; simp) HE.out (fun h => he2 h.2)))
                          clear he2
                          go_wp2_with fail
                          go_quiet (fail)
                          go_wp2_with fail
                          go_ret
                          exact ⟨by rw [HV.out]; rfl, pw_below_drewN (Below.trans HW.out (HR.out.2.mono HW.out.size)) _⟩
                      · have ne : ¬ x.f1.toList = o.f1.toList := fun h => he1 (str_eq.1 h)
                        have ne' : (x.f1.toList == o.f1.toList) = false := beq_eq_false_iff_ne.2 ne
                        have HV := Lib.hid (valid_stop hlt (by rw [HO.out]; exact okNext_diff (x := x) (by rw [← List.take_append_drop (jn + 1) (l0.take k), List.take_take, Nat.min_eq_left (by omega), HT.out]; simp) HE.out (fun h => he1 h.1)))
                        clear he1
                        go_wp2_with fail
                        go_quiet (fail)
                        go_wp2_with fail
                        go_ret
                        exact ⟨by rw [HV.out]; rfl, pw_below_drewN (Below.trans HW.out (HR.out.2.mono HW.out.size)) _⟩
                    · have ne : (x.f0 == o.f0) = false := beq_eq_false_iff_ne.2 he
                      have ne' : decide (x.f0 = o.f0) = false := decide_eq_false he
                      have HE := Lib.hid he
                      clear he
                      go_wp2_with fail
                      go_quiet (fail)
                      go_wp2_with fail
                      go_quiet (fail)
                      go_wp2_with fail
                      go_roundw
                      case rel =>
                        refine ⟨jn + 1, by omega, ?_, by go_num, ?_, (by repeat (first | exact HR.out.2 | apply pw_below_drewN))⟩
                        · rw [HT.out, newIn_snoc, HBN.out]
                          simp [HE.out]
                        · rw [HT.out]
                          intro y hy hyo
                          rcases List.mem_append.1 hy with hy | hy
                          · exact HR.out.1 y hy hyo
                          · rw [List.mem_singleton.1 hy] at hyo
                            exact absurd hyo HE.out
                      case measure => simp [intOf]; omega
                  | false =>
                    by_cases he : x.f0 = o.f0
                    · rw [he] at x0
                      have HE := Lib.hid he
                      clear he
                      by_cases he1 : x.f1 = o.f1
                      · rw [he1] at x1
                        have HE1 := Lib.hid he1
                        clear he1
                        by_cases he2 : x.f2 = o.f2
                        · rw [he2] at x2
                          have HE2 := Lib.hid he2
                          clear he2
                          go_wp2_with fail
                          go_quiet (fail)
                          go_wp2_with fail
                          go_quiet (fail)
                          go_wp2_with fail
                          go_roundw
                          case rel =>
                            refine ⟨jn + 1, by omega, ?_, by go_num, ?_, (by repeat (first | exact HR.out.2 | apply pw_below_drewN))⟩
                            · rw [HT.out, newIn_snoc, HBN.out, HE.out]
                              simp
                            · rw [HT.out]
                              intro y hy hyo
                              rcases List.mem_append.1 hy with hy | hy
                              · exact HR.out.1 y hy hyo
                              · rw [List.mem_singleton.1 hy]
                                exact ⟨HE1.out, HE2.out⟩
                          case measure => simp [intOf]; omega
                        · have ne : ¬ x.f2.toList = o.f2.toList := fun h => he2 (str_eq.1 h)
                          have ne' : (x.f2.toList == o.f2.toList) = false := beq_eq_false_iff_ne.2 ne
                          have HV := Lib.hid (valid_stop hlt (by rw [HO.out]; exact okNext_diff (x := x) (by rw [← List.take_append_drop (jn + 1) (l0.take k), List.take_take, Nat.min_eq_left (by omega), HT.out]; simp) HE.out (fun h => he2 h.2)))
                          clear he2
                          go_wp2_with fail
                          go_quiet (fail)
                          go_wp2_with fail
                          go_ret
                          exact ⟨by rw [HV.out]; rfl, pw_below_drewN (Below.trans HW.out (HR.out.2.mono HW.out.size)) _⟩
                      · have ne : ¬ x.f1.toList = o.f1.toList := fun h => he1 (str_eq.1 h)
                        have ne' : (x.f1.toList == o.f1.toList) = false := beq_eq_false_iff_ne.2 ne
                        have HV := Lib.hid (valid_stop hlt (by rw [HO.out]; exact okNext_diff (x := x) (by rw [← List.take_append_drop (jn + 1) (l0.take k), List.take_take, Nat.min_eq_left (by omega), HT.out]; simp) HE.out (fun h => he1 h.1)))
                        clear he1
                        go_wp2_with fail
                        go_quiet (fail)
                        go_wp2_with fail
                        go_ret
                        exact ⟨by rw [HV.out]; rfl, pw_below_drewN (Below.trans HW.out (HR.out.2.mono HW.out.size)) _⟩
                    · have ne : (x.f0 == o.f0) = false := beq_eq_false_iff_ne.2 he
                      have ne' : decide (x.f0 = o.f0) = false := decide_eq_false he
                      have HE := Lib.hid he
                      clear he
                      go_wp2_with fail
                      go_quiet (fail)
                      go_wp2_with fail
                      go_quiet (fail)
                      go_wp2_with fail
                      go_roundw
                      case rel =>
                        refine ⟨jn + 1, by omega, ?_, by go_num, ?_, (by repeat (first | exact HR.out.2 | apply pw_below_drewN))⟩
                        · rw [HT.out, newIn_snoc, HBN.out]
                          simp [HE.out]
                        · rw [HT.out]
                          intro y hy hyo
                          rcases List.mem_append.1 hy with hy | hy
                          · exact HR.out.1 y hy hyo
                          · rw [List.mem_singleton.1 hy] at hyo
                            exact absurd hyo HE.out
                      case measure => simp [intOf]; omega
                · obtain rfl : jn = k := by omega
                  clear hjk
                  have HBN := Lib.hid hb
                  rw [hb]
                  clear hb
                  have a1 := pw_cell_below HR.out.2 HOW.out.2.1
                  cases b with
                  | true =>
                    have okn := Lib.hid (okNext_new HFF.out HLL.out (newIn_iff.1 HBN.out))
                    have HCR := Lib.hid (Kd.C_below HC.out (Below.trans HW.out (HR.out.2.mono HW.out.size)))
                    have hnt := nums_take hlt o.f1
                    rw [HO.out, HBN.out, if_pos ⟨rfl, rfl⟩] at hnt
                    have hle : nums o.f1 [] (l0.take jn) ≤ 400 := Nat.le_trans (nums_le _ _ _) (by rw [List.length_take]; omega)
                    generalize hN : nums o.f1 [] (l0.take jn) = nn at *
                    generalize hM : nums o.f1 [] (l0.take (jn + 1)) = mm at *
                    have HN := Lib.hid hN
                    have HM := Lib.hid hM
                    have HNM := Lib.hid hnt
                    clear hN hM hnt
                    have z1 : (0 : Int) ≤ (jn : Int) + 1 := by omega
                    have z2 : (jn : Int) + 1 ≤ (c0 : Int) := by have := HL.out; omega
                    have z3 : ((jn : Int) + 1).toNat = jn + 1 := by omega
                    have z4 : IntKind.i64.wrap ((jn : Int) + 1) = (jn : Int) + 1 := IntWalk.i64_in _ (by omega)
                    by_cases h16 : mm ≤ 16
                    · have z5 : ¬ (16 : Int) < (mm : Int) := by omega
                      go_wp2_with fail
                      refine start_ (n := 14) (S := fun W => Below wr.heap.size wr W) (ds := []) #[false, false, false, false, false, false, false, false, false, false, false, false, false, false] (by kernel_rfl) rfl rfl (below_drew1 (Below.refl _ _)) (fun hHeld => ?_)
                      refine pure_ (i := 0) (N := (some 95)) (v := ?_) (a' := ?_) #[true, false, false, false, false, false, false, false, false, false, false, false, false, false] rfl rfl (by kernel_rfl) (fun _ _ _ h => h) (Or.inl ⟨by rfl, ?_⟩) ?_ ?_
                      rotate_left
                      · intro w'
                        go_simp
                        with_reducible rfl
                      rotate_left
                      · simp only [Act.put, List.setIfInBounds_toArray, List.set_cons_zero, List.set_cons_succ, i64_w, i32_w]
                        rfl
                      refine pure_ (i := 1) (N := (some 96)) (v := ?_) (a' := ?_) #[true, true, false, false, false, false, false, false, false, false, false, false, false, false] rfl rfl (by kernel_rfl) (fun _ _ _ h => h) (Or.inl ⟨by rfl, ?_⟩) ?_ ?_
                      rotate_left
                      · intro w'
                        go_simp
                        with_reducible rfl
                      rotate_left
                      · simp only [Act.put, List.setIfInBounds_toArray, List.set_cons_zero, List.set_cons_succ, i64_w, i32_w]
                        rfl
                      refine pure_ (i := 2) (N := (some 97)) (v := ?_) (a' := ?_) #[true, true, true, false, false, false, false, false, false, false, false, false, false, false] rfl rfl (by kernel_rfl) (fun _ _ _ h => h) (Or.inl ⟨by rfl, ?_⟩) ?_ ?_
                      rotate_left
                      · intro w'
                        go_simp
                        with_reducible rfl
                      rotate_left
                      · simp only [Act.put, List.setIfInBounds_toArray, List.set_cons_zero, List.set_cons_succ, i64_w, i32_w]
                        rfl
                      refine pure_ (i := 3) (N := (some 98)) (v := ?_) (a' := ?_) #[true, true, true, true, false, false, false, false, false, false, false, false, false, false] rfl rfl (by kernel_rfl) (fun _ _ _ h => h) (Or.inl ⟨by rfl, ?_⟩) ?_ ?_
                      rotate_left
                      · intro w'
                        go_simp
                        with_reducible rfl
                      rotate_left
                      · simp only [Act.put, List.setIfInBounds_toArray, List.set_cons_zero, List.set_cons_succ, i64_w, i32_w]
                        rfl
                      refine pure_ (i := 4) (N := (some 99)) (v := ?_) (a' := ?_) #[true, true, true, true, true, false, false, false, false, false, false, false, false, false] rfl rfl (by kernel_rfl) (fun _ _ _ h => h) (Or.inl ⟨by rfl, ?_⟩) ?_ ?_
                      rotate_left
                      · intro w'
                        go_simp
                        with_reducible rfl
                      rotate_left
                      · simp only [Act.put, List.setIfInBounds_toArray, List.set_cons_zero, List.set_cons_succ, i64_w, i32_w]
                        rfl
                      refine pure_ (i := 5) (N := (some 100)) (v := ?_) (a' := ?_) #[true, true, true, true, true, true, false, false, false, false, false, false, false, false] rfl rfl (by kernel_rfl) (fun _ _ _ h => h) (Or.inl ⟨by rfl, ?_⟩) ?_ ?_
                      rotate_left
                      · intro w'
                        go_simp
                        with_reducible rfl
                      rotate_left
                      · simp only [Act.put, List.setIfInBounds_toArray, List.set_cons_zero, List.set_cons_succ, i64_w, i32_w]
                        rfl
                      refine pure_ (i := 6) (N := (some 101)) (v := ?_) (a' := ?_) #[true, true, true, true, true, true, true, false, false, false, false, false, false, false] rfl rfl (by kernel_rfl) (fun _ _ _ h => h) (Or.inl ⟨by rfl, ?_⟩) ?_ ?_
                      rotate_left
                      · intro w'
                        go_simp
                        with_reducible rfl
                      rotate_left
                      · simp only [Act.put, List.setIfInBounds_toArray, List.set_cons_zero, List.set_cons_succ, i64_w, i32_w]
                        rfl
                      refine pure_ (i := 7) (N := (some 102)) (v := ?_) (a' := ?_) #[true, true, true, true, true, true, true, true, false, false, false, false, false, false] rfl rfl (by kernel_rfl) (fun _ _ _ h => h) (Or.inl ⟨by rfl, ?_⟩) ?_ ?_
                      rotate_left
                      · intro w'
                        go_simp
                        with_reducible rfl
                      rotate_left
                      · simp only [Act.put, List.setIfInBounds_toArray, List.set_cons_zero, List.set_cons_succ, i64_w, i32_w]
                        rfl
                      refine pure_ (i := 8) (N := (some 103)) (v := ?_) (a' := ?_) #[true, true, true, true, true, true, true, true, true, false, false, false, false, false] rfl rfl (by kernel_rfl) (fun _ _ _ h => h) (Or.inl ⟨by rfl, ?_⟩) ?_ ?_
                      rotate_left
                      · intro w'
                        go_simp
                        with_reducible rfl
                      rotate_left
                      · simp only [Act.put, List.setIfInBounds_toArray, List.set_cons_zero, List.set_cons_succ, i64_w, i32_w]
                        rfl
                      refine pure_ (i := 9) (N := (some 104)) (v := ?_) (a' := ?_) #[true, true, true, true, true, true, true, true, true, true, false, false, false, false] rfl rfl (by kernel_rfl) (fun _ _ _ h => h) (Or.inl ⟨by rfl, ?_⟩) ?_ ?_
                      rotate_left
                      · intro w'
                        go_simp
                        with_reducible rfl
                      rotate_left
                      · simp only [Act.put, List.setIfInBounds_toArray, List.set_cons_zero, List.set_cons_succ, i64_w, i32_w]
                        rfl
                      refine take_ (i := 10) (N := (some 105)) (v := ?_) (a' := ?_) #[true, true, true, true, true, true, true, true, true, true, true, false, false, false] rfl rfl (by kernel_rfl) (fun _ _ _ h => h) (Or.inl ⟨by rfl, ?_⟩) hHeld ?_ ?_
                      rotate_left
                      · rintro w' sb
                        have c1 := pw_cell_below sb a1
                        clear sb
                        go_simp
                        with_reducible rfl
                      rotate_left
                      · simp only [Act.put, List.setIfInBounds_toArray, List.set_cons_zero, List.set_cons_succ, i64_w, i32_w]
                        rfl
                      refine one_ (i := 11) (N := (some 106)) #[true, true, true, true, true, true, true, true, true, true, true, true, false, false] rfl rfl (by kernel_rfl) (by decide) (fun K hK => ?_)
                      refine goes_ Try.func25 (by kernel_rfl) rfl #[.slice (some ad) (jn + 1) c0, .string o.f1] (by rfl) rfl rfl (by (try simp only [List.map_toArray, List.map_cons, List.map_nil]); first | done | rfl) ?_
                      with_reducible refine (numsC _ _ l0 _ (jn + 1) hlen (by omega) _ (Kd.C_below HCR.out hHeld) HL.out).mono ?_
                      rintro e w' ⟨rfl, hb⟩
                      refine ⟨_, rfl, ?_⟩
                      refine hK.out _ _ (below_step hHeld hb) (fun hHeld => ?_)
                      clear hK K
                      clear hb
                      rw [HM.out]
                      refine norm_ (a' := ?_) ?_ ?_
                      rotate_left
                      · show Act.put _ (some 106) _ = _
                        simp only [Act.put, List.setIfInBounds_toArray, List.set_cons_zero, List.set_cons_succ, i64_w, i32_w]
                        rfl
                      refine pure_ (i := 12) (N := (some 107)) (v := ?_) (a' := ?_) #[true, true, true, true, true, true, true, true, true, true, true, true, true, false] rfl rfl (by kernel_rfl) (fun _ _ _ h => h) (Or.inl ⟨by rfl, ?_⟩) ?_ ?_
                      rotate_left
                      · intro w'
                        go_simp
                        with_reducible rfl
                      rotate_left
                      · simp only [Act.put, List.setIfInBounds_toArray, List.set_cons_zero, List.set_cons_succ, i64_w, i32_w]
                        rfl
                      refine pure_ (i := 13) (N := (some 108)) (v := ?_) (a' := ?_) #[true, true, true, true, true, true, true, true, true, true, true, true, true, true] rfl rfl (by kernel_rfl) (fun _ _ _ h => h) (Or.inl ⟨by rfl, ?_⟩) ?_ ?_
                      rotate_left
                      · intro w'
                        go_simp
                        with_reducible rfl
                      rotate_left
                      · simp only [Act.put, List.setIfInBounds_toArray, List.set_cons_zero, List.set_cons_succ, i64_w, i32_w]
                        rfl
                      refine done_ (by kernel_rfl) ?_
                      go_wp2_with fail
                      go_roundw
                      case rel => exact ⟨jn + 1, by omega, by go_num, validFrom_next hlt HI.out.1 (by rw [HO.out, okn.out]; exact decide_eq_true (by have := HNM.out; omega)), Below.trans HW.out (Below.trans HR.out.2 (hHeld.mono HR.out.2.size) |>.mono HW.out.size)⟩
                      case measure => simp [intOf]; omega
                    · have z5 : (16 : Int) < (mm : Int) := by omega
                      have HV := Lib.hid (valid_stop hlt (by rw [HO.out, okn.out]; exact decide_eq_false (by have := HNM.out; omega)))
                      go_wp2_with fail
                      refine start_ (n := 14) (S := fun W => Below wr.heap.size wr W) (ds := []) #[false, false, false, false, false, false, false, false, false, false, false, false, false, false] (by kernel_rfl) rfl rfl (below_drew1 (Below.refl _ _)) (fun hHeld => ?_)
                      refine pure_ (i := 0) (N := (some 95)) (v := ?_) (a' := ?_) #[true, false, false, false, false, false, false, false, false, false, false, false, false, false] rfl rfl (by kernel_rfl) (fun _ _ _ h => h) (Or.inl ⟨by rfl, ?_⟩) ?_ ?_
                      rotate_left
                      · intro w'
                        go_simp
                        with_reducible rfl
                      rotate_left
                      · simp only [Act.put, List.setIfInBounds_toArray, List.set_cons_zero, List.set_cons_succ, i64_w, i32_w]
                        rfl
                      refine pure_ (i := 1) (N := (some 96)) (v := ?_) (a' := ?_) #[true, true, false, false, false, false, false, false, false, false, false, false, false, false] rfl rfl (by kernel_rfl) (fun _ _ _ h => h) (Or.inl ⟨by rfl, ?_⟩) ?_ ?_
                      rotate_left
                      · intro w'
                        go_simp
                        with_reducible rfl
                      rotate_left
                      · simp only [Act.put, List.setIfInBounds_toArray, List.set_cons_zero, List.set_cons_succ, i64_w, i32_w]
                        rfl
                      refine pure_ (i := 2) (N := (some 97)) (v := ?_) (a' := ?_) #[true, true, true, false, false, false, false, false, false, false, false, false, false, false] rfl rfl (by kernel_rfl) (fun _ _ _ h => h) (Or.inl ⟨by rfl, ?_⟩) ?_ ?_
                      rotate_left
                      · intro w'
                        go_simp
                        with_reducible rfl
                      rotate_left
                      · simp only [Act.put, List.setIfInBounds_toArray, List.set_cons_zero, List.set_cons_succ, i64_w, i32_w]
                        rfl
                      refine pure_ (i := 3) (N := (some 98)) (v := ?_) (a' := ?_) #[true, true, true, true, false, false, false, false, false, false, false, false, false, false] rfl rfl (by kernel_rfl) (fun _ _ _ h => h) (Or.inl ⟨by rfl, ?_⟩) ?_ ?_
                      rotate_left
                      · intro w'
                        go_simp
                        with_reducible rfl
                      rotate_left
                      · simp only [Act.put, List.setIfInBounds_toArray, List.set_cons_zero, List.set_cons_succ, i64_w, i32_w]
                        rfl
                      refine pure_ (i := 4) (N := (some 99)) (v := ?_) (a' := ?_) #[true, true, true, true, true, false, false, false, false, false, false, false, false, false] rfl rfl (by kernel_rfl) (fun _ _ _ h => h) (Or.inl ⟨by rfl, ?_⟩) ?_ ?_
                      rotate_left
                      · intro w'
                        go_simp
                        with_reducible rfl
                      rotate_left
                      · simp only [Act.put, List.setIfInBounds_toArray, List.set_cons_zero, List.set_cons_succ, i64_w, i32_w]
                        rfl
                      refine pure_ (i := 5) (N := (some 100)) (v := ?_) (a' := ?_) #[true, true, true, true, true, true, false, false, false, false, false, false, false, false] rfl rfl (by kernel_rfl) (fun _ _ _ h => h) (Or.inl ⟨by rfl, ?_⟩) ?_ ?_
                      rotate_left
                      · intro w'
                        go_simp
                        with_reducible rfl
                      rotate_left
                      · simp only [Act.put, List.setIfInBounds_toArray, List.set_cons_zero, List.set_cons_succ, i64_w, i32_w]
                        rfl
                      refine pure_ (i := 6) (N := (some 101)) (v := ?_) (a' := ?_) #[true, true, true, true, true, true, true, false, false, false, false, false, false, false] rfl rfl (by kernel_rfl) (fun _ _ _ h => h) (Or.inl ⟨by rfl, ?_⟩) ?_ ?_
                      rotate_left
                      · intro w'
                        go_simp
                        with_reducible rfl
                      rotate_left
                      · simp only [Act.put, List.setIfInBounds_toArray, List.set_cons_zero, List.set_cons_succ, i64_w, i32_w]
                        rfl
                      refine pure_ (i := 7) (N := (some 102)) (v := ?_) (a' := ?_) #[true, true, true, true, true, true, true, true, false, false, false, false, false, false] rfl rfl (by kernel_rfl) (fun _ _ _ h => h) (Or.inl ⟨by rfl, ?_⟩) ?_ ?_
                      rotate_left
                      · intro w'
                        go_simp
                        with_reducible rfl
                      rotate_left
                      · simp only [Act.put, List.setIfInBounds_toArray, List.set_cons_zero, List.set_cons_succ, i64_w, i32_w]
                        rfl
                      refine pure_ (i := 8) (N := (some 103)) (v := ?_) (a' := ?_) #[true, true, true, true, true, true, true, true, true, false, false, false, false, false] rfl rfl (by kernel_rfl) (fun _ _ _ h => h) (Or.inl ⟨by rfl, ?_⟩) ?_ ?_
                      rotate_left
                      · intro w'
                        go_simp
                        with_reducible rfl
                      rotate_left
                      · simp only [Act.put, List.setIfInBounds_toArray, List.set_cons_zero, List.set_cons_succ, i64_w, i32_w]
                        rfl
                      refine pure_ (i := 9) (N := (some 104)) (v := ?_) (a' := ?_) #[true, true, true, true, true, true, true, true, true, true, false, false, false, false] rfl rfl (by kernel_rfl) (fun _ _ _ h => h) (Or.inl ⟨by rfl, ?_⟩) ?_ ?_
                      rotate_left
                      · intro w'
                        go_simp
                        with_reducible rfl
                      rotate_left
                      · simp only [Act.put, List.setIfInBounds_toArray, List.set_cons_zero, List.set_cons_succ, i64_w, i32_w]
                        rfl
                      refine take_ (i := 10) (N := (some 105)) (v := ?_) (a' := ?_) #[true, true, true, true, true, true, true, true, true, true, true, false, false, false] rfl rfl (by kernel_rfl) (fun _ _ _ h => h) (Or.inl ⟨by rfl, ?_⟩) hHeld ?_ ?_
                      rotate_left
                      · rintro w' sb
                        have c1 := pw_cell_below sb a1
                        clear sb
                        go_simp
                        with_reducible rfl
                      rotate_left
                      · simp only [Act.put, List.setIfInBounds_toArray, List.set_cons_zero, List.set_cons_succ, i64_w, i32_w]
                        rfl
                      refine one_ (i := 11) (N := (some 106)) #[true, true, true, true, true, true, true, true, true, true, true, true, false, false] rfl rfl (by kernel_rfl) (by decide) (fun K hK => ?_)
                      refine goes_ Try.func25 (by kernel_rfl) rfl #[.slice (some ad) (jn + 1) c0, .string o.f1] (by rfl) rfl rfl (by (try simp only [List.map_toArray, List.map_cons, List.map_nil]); first | done | rfl) ?_
                      with_reducible refine (numsC _ _ l0 _ (jn + 1) hlen (by omega) _ (Kd.C_below HCR.out hHeld) HL.out).mono ?_
                      rintro e w' ⟨rfl, hb⟩
                      refine ⟨_, rfl, ?_⟩
                      refine hK.out _ _ (below_step hHeld hb) (fun hHeld => ?_)
                      clear hK K
                      clear hb
                      rw [HM.out]
                      refine norm_ (a' := ?_) ?_ ?_
                      rotate_left
                      · show Act.put _ (some 106) _ = _
                        simp only [Act.put, List.setIfInBounds_toArray, List.set_cons_zero, List.set_cons_succ, i64_w, i32_w]
                        rfl
                      refine pure_ (i := 12) (N := (some 107)) (v := ?_) (a' := ?_) #[true, true, true, true, true, true, true, true, true, true, true, true, true, false] rfl rfl (by kernel_rfl) (fun _ _ _ h => h) (Or.inl ⟨by rfl, ?_⟩) ?_ ?_
                      rotate_left
                      · intro w'
                        go_simp
                        with_reducible rfl
                      rotate_left
                      · simp only [Act.put, List.setIfInBounds_toArray, List.set_cons_zero, List.set_cons_succ, i64_w, i32_w]
                        rfl
                      refine pure_ (i := 13) (N := (some 108)) (v := ?_) (a' := ?_) #[true, true, true, true, true, true, true, true, true, true, true, true, true, true] rfl rfl (by kernel_rfl) (fun _ _ _ h => h) (Or.inl ⟨by rfl, ?_⟩) ?_ ?_
                      rotate_left
                      · intro w'
                        go_simp
                        with_reducible rfl
                      rotate_left
                      · simp only [Act.put, List.setIfInBounds_toArray, List.set_cons_zero, List.set_cons_succ, i64_w, i32_w]
                        rfl
                      refine done_ (by kernel_rfl) ?_
                      go_wp2_with fail
                      go_ret
                      exact ⟨by rw [HV.out]; rfl, Below.trans HW.out (Below.trans HR.out.2 (hHeld.mono HR.out.2.size) |>.mono HW.out.size)⟩
                  | false =>
                    have hex : ∃ x ∈ l0.take jn, x.f0 = o.f0 := by
                      refine Classical.byContradiction fun hh => ?_
                      have := newIn_iff.2 (fun x hx he => hh ⟨x, hx, he⟩)
                      rw [HBN.out] at this
                      cases this
                    obtain ⟨x, hx, he⟩ := hex
                    have okn := Lib.hid (okNext_old HI.out.1 HFF.out HLL.out hx he (HR.out.1 x hx he))
                    clear hx he a1
                    go_wp2_with fail
                    go_quiet (fail)
                    go_wp2_with fail
                    go_roundw
                    case rel => exact ⟨jn + 1, by omega, by go_num, validFrom_next hlt HI.out.1 (by rw [HO.out, okn.out]), pw_below_drewN (Below.trans HW.out (HR.out.2.mono HW.out.size)) _⟩
                    case measure => simp [intOf]; omega
            · have HV := Lib.hid (valid_stop hlt (by rw [HO.out]; unfold okNext; rw [show lastLe (l0.take k) o = false from by rw [← HO.out, lastLe_at hlt]; exact decide_eq_false (fun h => by rw [HP.out, HO.out] at h; exact hle (h (by omega)))]; simp))
              have z5 : decide (o.f4 < p.f4) = true := decide_eq_true (by omega)
              clear hle hk0
              go_wp2_with fail
              refine start_ (n := 24) (S := fun W => Below wr.heap.size wr W) (ds := []) #[false, false, false, false, false, false, false, false, false, false, false, false, false, false, false, false, false, false, false, false, false, false, false, false] (by kernel_rfl) rfl rfl (below_drew1 (Below.refl _ _)) (fun hHeld => ?_)
              refine pure_ (i := 0) (N := (some 15)) (v := ?_) (a' := ?_) #[true, false, false, false, false, false, false, false, false, false, false, false, false, false, false, false, false, false, false, false, false, false, false, false] rfl rfl (by kernel_rfl) (fun _ _ _ h => h) (Or.inl ⟨by rfl, ?_⟩) ?_ ?_
              rotate_left
              · intro w'
                go_simp
                with_reducible rfl
              rotate_left
              · simp only [Act.put, List.setIfInBounds_toArray, List.set_cons_zero, List.set_cons_succ, i64_w, i32_w]
                rfl
              refine pure_ (i := 1) (N := (some 16)) (v := ?_) (a' := ?_) #[true, true, false, false, false, false, false, false, false, false, false, false, false, false, false, false, false, false, false, false, false, false, false, false] rfl rfl (by kernel_rfl) (fun _ _ _ h => h) (Or.inl ⟨by rfl, ?_⟩) ?_ ?_
              rotate_left
              · intro w'
                go_simp
                with_reducible rfl
              rotate_left
              · simp only [Act.put, List.setIfInBounds_toArray, List.set_cons_zero, List.set_cons_succ, i64_w, i32_w]
                rfl
              refine pure_ (i := 2) (N := (some 17)) (v := ?_) (a' := ?_) #[true, true, true, false, false, false, false, false, false, false, false, false, false, false, false, false, false, false, false, false, false, false, false, false] rfl rfl (by kernel_rfl) (fun _ _ _ h => h) (Or.inl ⟨by rfl, ?_⟩) ?_ ?_
              rotate_left
              · intro w'
                go_simp
                with_reducible rfl
              rotate_left
              · simp only [Act.put, List.setIfInBounds_toArray, List.set_cons_zero, List.set_cons_succ, i64_w, i32_w]
                rfl
              refine take_ (i := 3) (N := (some 18)) (v := ?_) (a' := ?_) #[true, true, true, true, false, false, false, false, false, false, false, false, false, false, false, false, false, false, false, false, false, false, false, false] rfl rfl (by kernel_rfl) (fun _ _ _ h => h) (Or.inl ⟨by rfl, ?_⟩) hHeld ?_ ?_
              rotate_left
              · rintro w' sb
                have c0 := pw_cell_below sb a0
                have c1 := pw_cell_below sb a1
                have c2 := pw_cell_below sb a2
                have c3 := pw_cell_below sb a3
                have c4 := pw_cell_below sb a4
                have c5 := pw_cell_below sb a5
                have c6 := pw_cell_below sb a6
                have c7 := pw_cell_below sb a7
                have d4 := pw_cell_below sb q4
                clear sb
                go_simp
                with_reducible rfl
              rotate_left
              · simp only [Act.put, List.setIfInBounds_toArray, List.set_cons_zero, List.set_cons_succ, i64_w, i32_w]
                rfl
              refine one_ (i := 4) (N := (some 19)) #[true, true, true, true, true, false, false, false, false, false, false, false, false, false, false, false, false, false, false, false, false, false, false, false] rfl rfl (by kernel_rfl) (by decide) (fun K hK => ?_)
              refine goes_ Try.func24 (by kernel_rfl) rfl #[odV o] (by rfl) rfl rfl (by (try simp only [List.map_toArray, List.map_cons, List.map_nil]); first | done | rfl) ?_
              with_reducible refine (HF.out _).mono ?_
              rintro e w' ⟨rfl, hb⟩
              refine ⟨_, rfl, ?_⟩
              refine hK.out _ _ (below_step hHeld hb) (fun hHeld => ?_)
              clear hK K
              clear hb
              refine norm_ (a' := ?_) ?_ ?_
              rotate_left
              · show Act.put _ (some 19) _ = _
                simp only [Act.put, List.setIfInBounds_toArray, List.set_cons_zero, List.set_cons_succ, i64_w, i32_w]
                rfl
              refine pure_ (i := 5) (N := (some 20)) (v := ?_) (a' := ?_) #[true, true, true, true, true, true, false, false, false, false, false, false, false, false, false, false, false, false, false, false, false, false, false, false] rfl rfl (by kernel_rfl) (fun _ _ _ h => h) (Or.inl ⟨by rfl, ?_⟩) ?_ ?_
              rotate_left
              · intro w'
                go_simp
                with_reducible rfl
              rotate_left
              · simp only [Act.put, List.setIfInBounds_toArray, List.set_cons_zero, List.set_cons_succ, i64_w, i32_w]
                rfl
              refine pure_ (i := 6) (N := (some 21)) (v := ?_) (a' := ?_) #[true, true, true, true, true, true, true, false, false, false, false, false, false, false, false, false, false, false, false, false, false, false, false, false] rfl rfl (by kernel_rfl) (fun _ _ _ h => h) (Or.inl ⟨by rfl, ?_⟩) ?_ ?_
              rotate_left
              · intro w'
                go_simp
                with_reducible rfl
              rotate_left
              · simp only [Act.put, List.setIfInBounds_toArray, List.set_cons_zero, List.set_cons_succ, i64_w, i32_w]
                rfl
              refine pure_ (i := 7) (N := (some 22)) (v := ?_) (a' := ?_) #[true, true, true, true, true, true, true, true, false, false, false, false, false, false, false, false, false, false, false, false, false, false, false, false] rfl rfl (by kernel_rfl) (fun _ _ _ h => h) (Or.inl ⟨by rfl, ?_⟩) ?_ ?_
              rotate_left
              · intro w'
                go_simp
                with_reducible rfl
              rotate_left
              · simp only [Act.put, List.setIfInBounds_toArray, List.set_cons_zero, List.set_cons_succ, i64_w, i32_w]
                rfl
              refine pure_ (i := 8) (N := (some 23)) (v := ?_) (a' := ?_) #[true, true, true, true, true, true, true, true, true, false, false, false, false, false, false, false, false, false, false, false, false, false, false, false] rfl rfl (by kernel_rfl) (fun _ _ _ h => h) (Or.inl ⟨by rfl, ?_⟩) ?_ ?_
              rotate_left
              · intro w'
                go_simp
                with_reducible rfl
              rotate_left
              · simp only [Act.put, List.setIfInBounds_toArray, List.set_cons_zero, List.set_cons_succ, i64_w, i32_w]
                rfl
              refine pure_ (i := 9) (N := (some 24)) (v := ?_) (a' := ?_) #[true, true, true, true, true, true, true, true, true, true, false, false, false, false, false, false, false, false, false, false, false, false, false, false] rfl rfl (by kernel_rfl) (fun _ _ _ h => h) (Or.inl ⟨by rfl, ?_⟩) ?_ ?_
              rotate_left
              · intro w'
                go_simp
                with_reducible rfl
              rotate_left
              · simp only [Act.put, List.setIfInBounds_toArray, List.set_cons_zero, List.set_cons_succ, i64_w, i32_w]
                rfl
              refine pure_ (i := 10) (N := (some 25)) (v := ?_) (a' := ?_) #[true, true, true, true, true, true, true, true, true, true, true, false, false, false, false, false, false, false, false, false, false, false, false, false] rfl rfl (by kernel_rfl) (fun _ _ _ h => h) (Or.inl ⟨by rfl, ?_⟩) ?_ ?_
              rotate_left
              · intro w'
                go_simp
                with_reducible rfl
              rotate_left
              · simp only [Act.put, List.setIfInBounds_toArray, List.set_cons_zero, List.set_cons_succ, i64_w, i32_w]
                rfl
              refine pure_ (i := 11) (N := (some 26)) (v := ?_) (a' := ?_) #[true, true, true, true, true, true, true, true, true, true, true, true, false, false, false, false, false, false, false, false, false, false, false, false] rfl rfl (by kernel_rfl) (fun _ _ _ h => h) (Or.inl ⟨by rfl, ?_⟩) ?_ ?_
              rotate_left
              · intro w'
                go_simp
                with_reducible rfl
              rotate_left
              · simp only [Act.put, List.setIfInBounds_toArray, List.set_cons_zero, List.set_cons_succ, i64_w, i32_w]
                rfl
              refine pure_ (i := 12) (N := (some 27)) (v := ?_) (a' := ?_) #[true, true, true, true, true, true, true, true, true, true, true, true, true, false, false, false, false, false, false, false, false, false, false, false] rfl rfl (by kernel_rfl) (fun _ _ _ h => h) (Or.inl ⟨by rfl, ?_⟩) ?_ ?_
              rotate_left
              · intro w'
                go_simp
                with_reducible rfl
              rotate_left
              · simp only [Act.put, List.setIfInBounds_toArray, List.set_cons_zero, List.set_cons_succ, i64_w, i32_w]
                rfl
              refine pure_ (i := 13) (N := (some 28)) (v := ?_) (a' := ?_) #[true, true, true, true, true, true, true, true, true, true, true, true, true, true, false, false, false, false, false, false, false, false, false, false] rfl rfl (by kernel_rfl) (fun _ _ _ h => h) (Or.inl ⟨by rfl, ?_⟩) ?_ ?_
              rotate_left
              · intro w'
                go_simp
                with_reducible rfl
              rotate_left
              · simp only [Act.put, List.setIfInBounds_toArray, List.set_cons_zero, List.set_cons_succ, i64_w, i32_w]
                rfl
              refine pure_ (i := 14) (N := (some 29)) (v := ?_) (a' := ?_) #[true, true, true, true, true, true, true, true, true, true, true, true, true, true, true, false, false, false, false, false, false, false, false, false] rfl rfl (by kernel_rfl) (fun _ _ _ h => h) (Or.inl ⟨by rfl, ?_⟩) ?_ ?_
              rotate_left
              · intro w'
                go_simp
                with_reducible rfl
              rotate_left
              · simp only [Act.put, List.setIfInBounds_toArray, List.set_cons_zero, List.set_cons_succ, i64_w, i32_w]
                rfl
              refine take_ (i := 15) (N := (some 30)) (v := ?_) (a' := ?_) #[true, true, true, true, true, true, true, true, true, true, true, true, true, true, true, true, false, false, false, false, false, false, false, false] rfl rfl (by kernel_rfl) (fun _ _ _ h => h) (Or.inl ⟨by rfl, ?_⟩) hHeld ?_ ?_
              rotate_left
              · rintro w' sb
                have c0 := pw_cell_below sb a0
                have c1 := pw_cell_below sb a1
                have c2 := pw_cell_below sb a2
                have c3 := pw_cell_below sb a3
                have c4 := pw_cell_below sb a4
                have c5 := pw_cell_below sb a5
                have c6 := pw_cell_below sb a6
                have c7 := pw_cell_below sb a7
                have d4 := pw_cell_below sb q4
                clear sb
                go_simp
                with_reducible rfl
              rotate_left
              · simp only [Act.put, List.setIfInBounds_toArray, List.set_cons_zero, List.set_cons_succ, i64_w, i32_w]
                rfl
              refine pure_ (i := 16) (N := (some 31)) (v := ?_) (a' := ?_) #[true, true, true, true, true, true, true, true, true, true, true, true, true, true, true, true, true, false, false, false, false, false, false, false] rfl rfl (by kernel_rfl) (fun _ _ _ h => h) (Or.inl ⟨by rfl, ?_⟩) ?_ ?_
              rotate_left
              · intro w'
                go_simp
                with_reducible rfl
              rotate_left
              · simp only [Act.put, List.setIfInBounds_toArray, List.set_cons_zero, List.set_cons_succ, i64_w, i32_w]
                rfl
              refine pure_ (i := 17) (N := (some 32)) (v := ?_) (a' := ?_) #[true, true, true, true, true, true, true, true, true, true, true, true, true, true, true, true, true, true, false, false, false, false, false, false] rfl rfl (by kernel_rfl) (fun _ _ _ h => h) (Or.inl ⟨by rfl, ?_⟩) ?_ ?_
              rotate_left
              · intro w'
                go_simp
                with_reducible rfl
              rotate_left
              · simp only [Act.put, List.setIfInBounds_toArray, List.set_cons_zero, List.set_cons_succ, i64_w, i32_w]
                rfl
              refine pure_ (i := 18) (N := (some 33)) (v := ?_) (a' := ?_) #[true, true, true, true, true, true, true, true, true, true, true, true, true, true, true, true, true, true, true, false, false, false, false, false] rfl rfl (by kernel_rfl) (fun _ _ _ h => h) (Or.inl ⟨by rfl, ?_⟩) ?_ ?_
              rotate_left
              · intro w'
                go_simp
                with_reducible rfl
              rotate_left
              · simp only [Act.put, List.setIfInBounds_toArray, List.set_cons_zero, List.set_cons_succ, i64_w, i32_w]
                rfl
              refine pure_ (i := 19) (N := (some 34)) (v := ?_) (a' := ?_) #[true, true, true, true, true, true, true, true, true, true, true, true, true, true, true, true, true, true, true, true, false, false, false, false] rfl rfl (by kernel_rfl) (fun _ _ _ h => h) (Or.inl ⟨by rfl, ?_⟩) ?_ ?_
              rotate_left
              · intro w'
                go_simp
                with_reducible rfl
              rotate_left
              · simp only [Act.put, List.setIfInBounds_toArray, List.set_cons_zero, List.set_cons_succ, i64_w, i32_w]
                rfl
              refine take_ (i := 20) (N := (some 35)) (v := ?_) (a' := ?_) #[true, true, true, true, true, true, true, true, true, true, true, true, true, true, true, true, true, true, true, true, true, false, false, false] rfl rfl (by kernel_rfl) (fun _ _ _ h => h) (Or.inl ⟨by rfl, ?_⟩) hHeld ?_ ?_
              rotate_left
              · rintro w' sb
                have c0 := pw_cell_below sb a0
                have c1 := pw_cell_below sb a1
                have c2 := pw_cell_below sb a2
                have c3 := pw_cell_below sb a3
                have c4 := pw_cell_below sb a4
                have c5 := pw_cell_below sb a5
                have c6 := pw_cell_below sb a6
                have c7 := pw_cell_below sb a7
                have d4 := pw_cell_below sb q4
                clear sb
                go_simp
                with_reducible rfl
              rotate_left
              · simp only [Act.put, List.setIfInBounds_toArray, List.set_cons_zero, List.set_cons_succ, i64_w, i32_w]
                rfl
              refine pure_ (i := 21) (N := (some 36)) (v := ?_) (a' := ?_) #[true, true, true, true, true, true, true, true, true, true, true, true, true, true, true, true, true, true, true, true, true, true, false, false] rfl rfl (by kernel_rfl) (fun _ _ _ h => h) (Or.inl ⟨by rfl, ?_⟩) ?_ ?_
              rotate_left
              · intro w'
                go_simp
                with_reducible rfl
              rotate_left
              · simp only [Act.put, List.setIfInBounds_toArray, List.set_cons_zero, List.set_cons_succ, i64_w, i32_w]
                rfl
              refine pure_ (i := 22) (N := (some 37)) (v := ?_) (a' := ?_) #[true, true, true, true, true, true, true, true, true, true, true, true, true, true, true, true, true, true, true, true, true, true, true, false] rfl rfl (by kernel_rfl) (fun _ _ _ h => h) (Or.inl ⟨by rfl, ?_⟩) ?_ ?_
              rotate_left
              · intro w'
                go_simp
                with_reducible rfl
              rotate_left
              · simp only [Act.put, List.setIfInBounds_toArray, List.set_cons_zero, List.set_cons_succ, i64_w, i32_w]
                rfl
              refine pure_ (i := 23) (N := (some 38)) (v := ?_) (a' := ?_) #[true, true, true, true, true, true, true, true, true, true, true, true, true, true, true, true, true, true, true, true, true, true, true, true] rfl rfl (by kernel_rfl) (fun _ _ _ h => h) (Or.inl ⟨by rfl, ?_⟩) ?_ ?_
              rotate_left
              · intro w'
                go_simp
                with_reducible rfl
              rotate_left
              · simp only [Act.put, List.setIfInBounds_toArray, List.set_cons_zero, List.set_cons_succ, i64_w, i32_w]
                rfl
              refine done_ (by kernel_rfl) ?_
              clear z1 z2 z3 z4 z5 z6 q4
              go_wp2_with fail
              go_ret
              exact ⟨by rw [HV.out]; rfl, below_step HB.out hHeld⟩
      · obtain rfl : k = l0.length := by omega
        have HV := Lib.hid (show valid l0 = true from by unfold valid; rw [decide_eq_true hlen, ← List.take_length (l := l0)]; exact hI.1)
        have HB := Lib.hid hI.2
        clear hI
        go_wp2
        go_ret
        exact ⟨by rw [HV.out]; rfl, HB.out⟩
  · have HV := Lib.hid (show valid l0 = false from by unfold valid; rw [decide_eq_false hlen]; rfl)
    go_enter Try.func15, Try.ntmps15
    go_wp2
    go_ret
    exact ⟨by rw [HV.out]; rfl, Below.refl _ _⟩
theorem wageofficeref31_Valid.calls (A0 : Option Addr) (c0 : Nat) (l0 : List Od) (r : Bool) (w : World) (hr0 : Kd.C k24 w A0 l0.length l0) (hc0 : l0.length ≤ c0) (h : wageofficeref31_Valid.f l0 = some r) :
    Calls Try.prog 15 #[.slice A0 l0.length c0] w fun e w' => e = .returned (.bool r) ∧ Below w.heap.size w w' := by
  injection h with h
  subst h
  exact rvalid_any A0 c0 l0 w hr0 hc0
end Go.Proofs.Ytgbcihbnaecejaa.Q

namespace Go.Proofs.Ytgbcihbnaecejaa.Q
open Go Go.RowKit Go.Maps Go.Proofs.YtgbcihbnaecejaaW.PrintWords Go.Proofs.YtgbcihbnaecejaaW.PrintLast Go.Proofs.YtgbcihbnaecejaaW.PrintMore
theorem head31_c (w : World) : Calls Try.prog 10 #[] w fun e w' => e = .returned (.bool true) ∧ Below w.heap.size w w' := wageofficelaw31_head.calls true w rfl
end Go.Proofs.Ytgbcihbnaecejaa.Q

namespace Go.Proofs.Ytgbcihbnaecejaa.Q
open Go Go.RowKit Go.Maps Go.Proofs.YtgbcihbnaecejaaW.PrintWords Go.Proofs.YtgbcihbnaecejaaW.PrintLast Go.Proofs.YtgbcihbnaecejaaW.PrintMore
set_option linter.unusedVariables false
theorem short_t (A0 : Option Addr) (c0 : Nat) (l0 : List Od) (b : Bool) (w : World) (hr0 : Kd.C k24 w A0 l0.length l0) (hc0 : l0.length ≤ c0) (hb : decide ((l0.length : Int) ≤ 403) = b) : Calls Try.prog 11 #[.slice A0 l0.length c0] w fun e w' => e = .returned (.bool b) ∧ Below w.heap.size w w' := by
  subst hb
  refine (wageofficelaw31_short.calls A0 c0 l0 _ w hr0 hc0 rfl).mono fun e w' h => ⟨h.1, ?_⟩
  first
  | exact h.2
  | (obtain ⟨n, rfl⟩ := h.2.out; exact pw_below_drewN (Below.refl _ _) n)
theorem zeroB (w : World) : (zeroValue 4).run Try.prog w = .ok (.bool false) w := by kernel_rfl
noncomputable def gB (L : List Int) (n : Int) : Option Value := @ite _ (n ∈ L) (Classical.propDecidable _) (some (.bool true)) none
theorem gB_yes {L : List Int} {n : Int} (h : n ∈ L) : gB L n = some (.bool true) := if_pos h
theorem gB_no {L : List Int} {n : Int} (h : n ∉ L) : gB L n = none := if_neg h
theorem gB_nil : gB [] = fun _ => none := by funext n; exact gB_no (by simp)
theorem gB_step (L : List Int) (n : Int) : gB (L ++ [n]) = putT (gB L) n (.bool true) := by
  funext m
  by_cases e : m = n
  · subst e
    rw [putT_same, gB_yes (by simp)]
  · rw [putT_ne _ _ e]
    by_cases h : m ∈ L
    · rw [gB_yes h, gB_yes (by simp [h])]
    · rw [gB_no h, gB_no (by simp [h, e])]
theorem gOf_mem {C : List Od} (hd : C.Pairwise (fun a b => a.f0 ≠ b.f0)) {o : Od} (ho : o ∈ C) : gOf C o.f0 = some (odV o) := by
  have h := gOf_isSome ho
  cases hg : gOf C o.f0 with
  | none => rw [hg] at h; cases h
  | some v =>
    obtain ⟨o', h1, h2, h3⟩ := gOf_some hg
    rw [distinct_eq hd h1 ho h2] at h3
    rw [h3]
theorem openO_len' (l : List Od) (p : ByteArray) (m kn : Int) : (openO l p m kn).length ≤ 400 := by
  unfold openO
  cases hv : valid l with
  | false => simp
  | true =>
    rw [if_pos rfl, sortO_length]
    exact Nat.le_trans (List.length_filter_le _ _) (Nat.le_trans (cur_len p kn l) ((valid_iff l).1 hv).1)
theorem openO_distinct (l : List Od) (p : ByteArray) (m kn : Int) : (openO l p m kn).Pairwise (fun a b => a.f0 ≠ b.f0) := by
  unfold openO
  split
  · exact (sortO_perm _).symm.pairwise ((cur_distinct p kn l).filter _) (fun {a b} h e => h e.symm)
  · exact List.Pairwise.nil
theorem drop_odAt' {l : List Od} {i : Nat} (h : i < l.length) : l.drop i = odAt l i :: l.drop (i + 1) := by
  rw [List.drop_eq_getElem_cons h]
  congr 1
  unfold odAt
  rw [List.getD_eq_getElem?_getD, List.getElem?_eq_getElem h]
  rfl
theorem openO_mem' {l : List Od} (hv : valid l = true) {p : ByteArray} {m kn : Int} {o : Od} : o ∈ openO l p m kn ↔ o ∈ curAll kn l ∧ o.f1 = p ∧ isOpen m o = true := by
  have g := ((valid_iff l).1 hv).2
  unfold openO
  rw [if_pos hv, sortO_mem, List.mem_filter, cur_all p kn (fun a ha b hb hab => (g.parties a ha b hb hab).1), List.mem_filter, decide_eq_true_eq, and_assoc]
end Go.Proofs.Ytgbcihbnaecejaa.Q

namespace Go.Proofs.Ytgbcihbnaecejaa.Q
open Go.RowKit Go.Proofs.YtgbcihbnaecejaaW.PrintWords Go.Proofs.YtgbcihbnaecejaaW.PrintLast Go.Proofs.YtgbcihbnaecejaaW.PrintMore
attribute [local go_sem] max2_int min2_int max_two min_two max_three min_three max_four min_four   -- for this text's walks alone
set_option linter.unusedVariables false
set_option linter.unusedSimpArgs false
theorem eqA24 (d : Nat) (w : World) (x0 y0 : Int) (x1 y1 : ByteArray) (x2 y2 : ByteArray) (x3 y3 : Int) (x4 y4 : Int) (x5 y5 : Int) (x6 y6 : Int) (x7 y7 : Bool) :
    (Op.equalIn (d + 2) 24 (.agg #[.int .i64 x0, .string x1, .string x2, .int .i64 x3, .int .i64 x4, .int .i64 x5, .int .i64 x6, .bool x7]) (.agg #[.int .i64 y0, .string y1, .string y2, .int .i64 y3, .int .i64 y4, .int .i64 y5, .int .i64 y6, .bool y7])).run Try.prog w = .ok (x0 == y0 && (x1.toList == y1.toList && (x2.toList == y2.toList && (x3 == y3 && (x4 == y4 && (x5 == y5 && (x6 == y6 && (x7 == y7)))))))) w := by
  refine eqA_of Try.underlying24 (by kernel_rfl) ?_
  refine eqf_cons (by rfl) (by go_simp; rfl) (by go_simp; rfl) (by go_simp) ?_
  refine eqf_cons (by rfl) (by go_simp; rfl) (by go_simp; rfl) (by go_simp) ?_
  refine eqf_cons (by rfl) (by go_simp; rfl) (by go_simp; rfl) (by go_simp) ?_
  refine eqf_cons (by rfl) (by go_simp; rfl) (by go_simp; rfl) (by go_simp) ?_
  refine eqf_cons (by rfl) (by go_simp; rfl) (by go_simp; rfl) (by go_simp) ?_
  refine eqf_cons (by rfl) (by go_simp; rfl) (by go_simp; rfl) (by go_simp) ?_
  refine eqf_cons (by rfl) (by go_simp; rfl) (by go_simp; rfl) (by go_simp) ?_
  exact eqf_last (by rfl) (by go_simp; rfl) (by go_simp; rfl) (by go_simp)
end Go.Proofs.Ytgbcihbnaecejaa.Q

namespace Go.Proofs.Ytgbcihbnaecejaa.Q
open Go Go.RowKit Go.Maps Go.Proofs.YtgbcihbnaecejaaW.PrintWords Go.Proofs.YtgbcihbnaecejaaW.PrintLast Go.Proofs.YtgbcihbnaecejaaW.PrintMore
set_option linter.unusedVariables false
set_option linter.unusedSimpArgs false
attribute [local go_sem high] eqA24
def wageofficelaw31_OrdersNumbers.f (l0 : List Od) (a1 : ByteArray) (a2 : Int) (a3 : Int) : Option (Bool) := some true
def NInv1 (l : List Od) (kn : Int) (w1 : World) (k : Nat) (wr : World) : Prop :=
  MapT Try.prog 3 okI litI wr w1.heap.size k (gOf (curAll kn (l.take k))) ∧ Below w1.heap.size w1 wr
def NInv2 (l out : List Od) (kn : Int) (w1 wq : World) (k : Nat) (wr : World) : Prop :=
  MapT Try.prog 3 okI litI wr w1.heap.size l.length (gOf (curAll kn l)) ∧ MapT Try.prog 3 okI litI wr wq.heap.size k (gB ((out.take k).map fun o => o.f0)) ∧ Below w1.heap.size w1 wr
def NInv3 (l out : List Od) (kn : Int) (w1 wq : World) (r : Nat) (wr : World) : Prop :=
  ∃ seen cnt, RangeT Try.prog 3 okI litI wr w1.heap.size r l.length (gOf (curAll kn l)) seen cnt ∧ MapT Try.prog 3 okI litI wr wq.heap.size out.length (gB (out.map fun o => o.f0)) ∧ Below w1.heap.size w1 wr ∧ r < wr.heap.size
set_option maxRecDepth 100000 in
set_option maxHeartbeats 4000000 in
theorem numbers_any (A0 : Option Addr) (c0 : Nat) (l0 : List Od) (p : ByteArray) (month kn : Int) (w : World) (hr0 : Kd.C k24 w A0 l0.length l0) (hc0 : l0.length ≤ c0) :
    Calls Try.prog 5 #[.slice A0 l0.length c0, .string p, .int .i64 month, .int .i64 kn] w fun e w' => e = .returned (.bool true) ∧ Below w.heap.size w w' := by
  have HC := Lib.hid hr0
  have HL := Lib.hid hc0
  clear hr0 hc0
  by_cases hsh : (l0.length : Int) ≤ 403
  · have HSH := Lib.hid (decide_eq_true hsh)
    have hmm := @run_makeMap Try.prog
    cases hv : valid l0 with
    | false =>
      have HVV := Lib.hid hv
      clear hv
      have HE := Lib.hid (show openO l0 p month kn = [] from by unfold openO; rw [if_neg (by rw [HVV.out]; simp)])
      go_enter Try.func5, Try.ntmps5
      go_wp2_with (first | (go_at_call 10; refine (head31_c _).mono ?_; rintro e w1 ⟨rfl, hb⟩; have HB := Lib.hid hb; clear hb) | (go_at_call 11; refine (short_t A0 c0 l0 _ _ (Kd.C_below HC.out HB.out) HL.out HSH.out).mono ?_; rintro e w2 ⟨rfl, hb⟩; have HB2 := Lib.hid (below_step HB.out hb); clear hb) | (go_at_call 17; refine (orders_Open.calls A0 c0 l0 p month kn _ _ (Kd.C_below HC.out HB2.out) HL.out rfl).mono ?_; rintro e w3 ⟨v1, rfl, hR, hb⟩; rw [HE.out] at hR; obtain ⟨A1, c1, e1⟩ := Kd.R_slice hR; subst e1; have HB3 := Lib.hid (below_step HB2.out hb); simp only [List.length_nil]; clear hb hR) | (go_at_call 15; refine (wageofficeref31_Valid.calls A0 c0 l0 false _ (Kd.C_below HC.out HB3.out) HL.out (congrArg some HVV.out)).mono ?_; rintro e w4 ⟨rfl, hb⟩; have HB4 := Lib.hid (below_step HB3.out hb); clear hb) | (go_at_call 14; refine (orders_Valid.calls A0 c0 l0 false _ (Kd.C_below HC.out HB4.out) HL.out (congrArg some HVV.out)).mono ?_; rintro e w5 ⟨rfl, hb⟩; have HB5 := Lib.hid (below_step HB4.out hb); clear hb) | go_in)
      go_ret
      exact ⟨rfl, HB5.out⟩
    | true =>
      have HVV := Lib.hid hv
      have hlen := ((valid_iff l0).1 hv).1
      have HG := Lib.hid ((valid_iff l0).1 hv).2
      have HMO := Lib.hid (fun (o : Od) => openO_mem' (o := o) (p := p) (m := month) (kn := kn) hv)
      have hol : (openO l0 p month kn).length ≤ 400 := openO_len' l0 p month kn
      have HOS := Lib.hid (openO_distinct l0 p month kn)
      clear hv
      generalize hout : openO l0 p month kn = out at *
      have HOUT := Lib.hid hout
      clear hout
      go_enter Try.func5, Try.ntmps5
      go_wp2_with (first | (go_at_call 10; refine (head31_c _).mono ?_; rintro e w1 ⟨rfl, hb⟩; have HB := Lib.hid hb; clear hb) | (go_at_call 11; refine (short_t A0 c0 l0 _ _ (Kd.C_below HC.out HB.out) HL.out HSH.out).mono ?_; rintro e w2 ⟨rfl, hb⟩; have HB2 := Lib.hid (below_step HB.out hb); clear hb) | (go_at_call 17; refine (orders_Open.calls A0 c0 l0 p month kn out _ (Kd.C_below HC.out HB2.out) HL.out (congrArg some HOUT.out)).mono ?_; rintro e w3 ⟨v1, rfl, hR, hb⟩; obtain ⟨A1, c1, e1⟩ := Kd.R_slice hR; subst e1; have HB3 := Lib.hid (below_step HB2.out hb); have HR3 := Lib.hid (Kd.R_reads' hR).2; clear hb hR) | (go_at_call 15; refine (wageofficeref31_Valid.calls A0 c0 l0 true _ (Kd.C_below HC.out HB3.out) HL.out (congrArg some HVV.out)).mono ?_; rintro e w4 ⟨rfl, hb⟩; have HB4 := Lib.hid (below_step HB3.out hb); have HR4 := Lib.hid (And.intro HR3.out.1 (Kd.C_below HR3.out.2 hb)); clear hb) | go_in)
      go_loopw [46] (fun i wr => ∃ k : Nat, k ≤ l0.length ∧ i = .int .i64 k ∧ NInv1 l0 kn w4 k wr) (fun i _ => l0.length - (intOf i).toNat)
      case atStart => exact ⟨0, Nat.zero_le _, rfl, MapT.made _ _ _ _ _, below_alloc (Below.refl _ _) _⟩
      case round =>
        obtain ⟨k, hk, rfl, hI⟩ := hrel
        by_cases hlt : k < l0.length
        · have HI := Lib.hid hI
          obtain ⟨ad, rfl, a0, a1, a2, a3, a4, a5, a6, a7⟩ := od_cells (Kd.C_below (Kd.C_below HC.out HB4.out) HI.out.2) hlt
          have hmem := odAt_mem hlt
          have HT := Lib.hid (take_odAt hlt)
          generalize ho : odAt l0 k = o at *
          have hff := FOk.of (HG.out.formed o hmem)
          have HOK := Lib.hid (show okI o.f0 from WalkArith.wf_i64 (by have := hff.f0; omega))
          have HKM := Lib.hid (show k < maxLen from by unfold maxLen; omega)
          clear ho hI hmem hff
          by_cases hkn : o.f4 ≤ kn
          · have z1 : decide (o.f4 ≤ kn) = true := decide_eq_true hkn
            go_wp2_with (first
              | (at_mapUpdate; refine wpList_storeT keyI rfl _ _ _ 33 24 rfl Try.underlying33 w4.heap.size k (gOf (curAll kn (l0.take k))) o.f0 (odV o) rfl rfl rfl (HI.out.1.alloc _) HKM.out HOK.out ?_; intro w5 m2 k2)
              | go_in)
            go_roundw
            case rel =>
              refine ⟨k + 1, by omega, by go_num, ?_, Below.trans HI.out.2 (Below.trans (below_alloc (Below.refl _ _) _ |>.mono HI.out.2.size) (k2.below (B := w4.heap.size) (by have := HI.out.2.size; simp; omega) (fun i h => by have h2 : i = w4.heap.size := h; omega)))⟩
              have e : curAll kn (l0.take (k + 1)) = (curAll kn (l0.take k)).filter (fun x => decide (x.f0 ≠ o.f0)) ++ [o] := by
                rw [HT.out, curAll_snoc]
                exact if_pos hkn
              rw [e, gOf_step]
              exact m2
            case measure => simp [intOf]; omega
          · have z1 : decide (o.f4 ≤ kn) = false := decide_eq_false hkn
            have HKN := Lib.hid hkn
            clear hkn
            go_wp2_with fail
            go_roundw
            case rel =>
              refine ⟨k + 1, by omega, by go_num, ?_, below_alloc HI.out.2 _⟩
              have e : curAll kn (l0.take (k + 1)) = curAll kn (l0.take k) := by
                rw [HT.out, curAll_snoc]
                exact if_neg HKN.out
              rw [e]
              exact (HI.out.1.alloc _).mono (by omega)
            case measure => simp [intOf]; omega
        · obtain rfl : k = l0.length := by omega
          unfold NInv1 at hI
          rw [List.take_length] at hI
          have HI := Lib.hid hI
          clear hI
          obtain ⟨wq, hwq⟩ : ∃ wq : World, wq = wr := ⟨_, rfl⟩
          subst hwq
          have hq := HI.out.1.lt
          go_wp2_with fail
          go_loopw [62] (fun i wr => ∃ k : Nat, k ≤ out.length ∧ i = .int .i64 k ∧ NInv2 l0 out kn w4 wq k wr) (fun i _ => out.length - (intOf i).toNat)
          case atStart =>
            refine ⟨0, Nat.zero_le _, rfl, HI.out.1.alloc _, ?_, below_alloc HI.out.2 _⟩
            have := MapT.made Try.prog 3 okI litI wq
            rw [List.take_zero, List.map_nil, gB_nil]
            exact this
          case round =>
            obtain ⟨k, hk, rfl, hI2⟩ := hrel
            by_cases hlt : k < out.length
            · have HI2 := Lib.hid hI2
              obtain ⟨ad, rfl, a0, a1, a2, a3, a4, a5, a6, a7⟩ := od_cells (Kd.C_below HR4.out.2 HI2.out.2.2) hlt
              have hmem := odAt_mem hlt
              have HT := Lib.hid (take_odAt hlt)
              have hnot : (odAt out k).f0 ∉ (out.take k).map fun o => o.f0 := by
                intro h
                obtain ⟨x, hx, hxe⟩ := List.mem_map.1 h
                have h1 := HOS.out
                rw [← List.take_append_drop k out, drop_odAt' hlt] at h1
                exact (List.pairwise_append.1 h1).2.2 x hx _ (List.mem_cons_self ..) hxe
              generalize ho : odAt out k = o at *
              obtain ⟨hC, hp, hop⟩ := (HMO.out o).1 hmem
              have hop := of_decide_eq_true hop
              have hff := FOk.of (HG.out.formed o (curAll_mem hC).1)
              have okn : okI o.f0 := WalkArith.wf_i64 (by have := hff.f0; omega)
              have HOK := Lib.hid okn
              have HKM := Lib.hid (show k < maxLen from by unfold maxLen; omega)
              have look1 := (HI2.out.2.1.alloc (.cells #[.int .i64 o.f0, .string p, .string o.f2, .int .i64 o.f3, .int .i64 o.f4, .int .i64 o.f5, .int .i64 o.f6, .bool o.f7] 24)).look keyI (t := 34) (e := 4) Try.underlying34 (zeroB _) okn
              rw [gB_no hnot] at look1
              have look2 := (HI2.out.1.alloc (.cells #[.int .i64 o.f0, .string p, .string o.f2, .int .i64 o.f3, .int .i64 o.f4, .int .i64 o.f5, .int .i64 o.f6, .bool o.f7] 24)).look keyI (t := 33) (e := 24) Try.underlying33 (z := (.agg #[(.int .i64 0), (.string ⟨#[]⟩), (.string ⟨#[]⟩), (.int .i64 0), (.int .i64 0), (.int .i64 0), (.int .i64 0), (.bool false)])) (by kernel_rfl) okn
              rw [gOf_mem (curAll_distinct kn l0) hC, show odV o = .agg #[.int .i64 o.f0, .string p, .string o.f2, .int .i64 o.f3, .int .i64 o.f4, .int .i64 o.f5, .int .i64 o.f6, .bool o.f7] from by rw [← hp]] at look2
              simp only [Option.getD_none, Option.getD_some] at look1 look2
              have HP := Lib.hid hp
              rw [hp] at a1
              have z1 : decide (month < o.f5) = false := decide_eq_false (by omega)
              have z2 : (o.f6 == 0) = false := beq_eq_false_iff_ne.2 (by omega)
              clear ho hI2 hmem hff okn hnot hC hp hop
              go_wp2_with (first
                | (at_mapUpdate; refine wpList_storeT keyI rfl _ _ _ 34 4 rfl Try.underlying34 wq.heap.size k _ o.f0 (.bool true) rfl rfl rfl (HI2.out.2.1.alloc _) HKM.out HOK.out ?_; intro w5 m2 k2)
                | go_in)
              go_roundw
              case rel =>
                refine ⟨k + 1, by omega, by go_num, (HI2.out.1.alloc _).kb k2 (by show ¬ w4.heap.size = wq.heap.size; omega), ?_, Below.trans HI2.out.2.2 (Below.trans (below_alloc (Below.refl _ _) _ |>.mono HI2.out.2.2.size) (k2.below (B := w4.heap.size) (by have := HI2.out.2.2.size; simp; omega) (fun i h => by have h2 : i = wq.heap.size := h; omega)))⟩
                rw [HT.out, List.map_append, List.map_cons, List.map_nil, gB_step]
                exact m2
              case measure => simp [intOf]; omega
            · obtain rfl : k = out.length := by omega
              unfold NInv2 at hI2
              rw [List.take_length] at hI2
              have HI2 := Lib.hid hI2
              clear hI2
              obtain ⟨wt, hwt⟩ : ∃ wt : World, wt = wr := ⟨_, rfl⟩
              subst hwt
              have hqt := HI2.out.2.1.lt
              have HC1 := Lib.hid (curAll_distinct kn l0)
              have HC2 := Lib.hid (fun o (ho : o ∈ curAll kn l0) => FOk.of (HG.out.formed o (curAll_mem ho).1))
              go_wp2_with (first
                | (at_range; refine wpList_rangeT keyI rfl _ 33 24 rfl Try.underlying33 w4.heap.size l0.length (gOf (curAll kn l0)) rfl HI2.out.1 ?_; intro w0 cnt hr0 hc0 hk0 hs0)
                | go_in)
              go_frame
              have HR0 := Lib.hid (And.intro hr0 (And.intro hk0 hs0))
              clear hr0 hk0 hs0 hc0
              go_loopw [18] (fun _ wr => NInv3 l0 out kn w4 wq wt.heap.size wr) (fun _ wr => wr.rangeLeft w4.heap.size wt.heap.size)
              case atStart => exact ⟨[], cnt, HR0.out.1, HI2.out.2.1.kb HR0.out.2.1 (fun h => h), Below.trans HI2.out.2.2 (HR0.out.2.1.below HI2.out.2.2.size (fun k h => h.elim)), by have := HR0.out.2.2; omega⟩
              case round =>
                obtain ⟨seen, cnt1, h1, h2, h3, h4⟩ := hrel
                have H := Lib.hid (And.intro h1 (And.intro h2 (And.intro h3 h4)))
                clear h1 h2 h3 h4
                go_wp2_with (first
                  | (at_next; refine wpList_nextT keyI rfl _ rfl w4.heap.size wt.heap.size l0.length (gOf (curAll kn l0)) seen cnt1 rfl H.out.1 ?_ ?_)
                  | go_in)
                · intro hall
                  clear hall
                  go_wp2_with fail
                  go_ret
                  exact ⟨rfl, Below.trans HB4.out (H.out.2.2.1.mono HB4.out.size)⟩
                · intro x v w5 cnt2 hx hns hgx hr2 hlt2 hk2 hs2 hen
                  obtain ⟨o, hoC, hox, hv⟩ := gOf_some hgx
                  subst hox
                  subst hv
                  have HN := Lib.hid (And.intro hr2 (And.intro hlt2 (And.intro hk2 hs2)))
                  have hm3 := H.out.2.1.kb hk2 (by show ¬ wq.heap.size = wt.heap.size; omega)
                  have hbw := Below.trans H.out.2.2.1 (hk2.below (B := w4.heap.size) H.out.2.2.1.size (fun k h => by have h2 : k = wt.heap.size := h; have := HI2.out.2.2.size; omega))
                  have hrs : wt.heap.size < wr.heap.size := H.out.2.2.2
                  have HM3 := Lib.hid (And.intro hm3 hbw)
                  have hMO := HMO.out o
                  clear hr2 hlt2 hk2 hns hgx hm3 hbw
                  by_cases hp : o.f1 = p
                  · simp only [odV, hp] at hen
                    by_cases c5 : o.f5 ≤ month
                    · have z5 : decide (o.f5 ≤ month) = true := decide_eq_true c5
                      by_cases c6 : 0 < o.f6
                      · have z6 : decide (0 < o.f6) = true := decide_eq_true c6
                        have hin := hMO.2 ⟨hoC, hp, decide_eq_true ⟨c5, c6⟩⟩
                        have look1 := (HM3.out.1.alloc (.cells #[.int .i64 o.f0, .string p, .string o.f2, .int .i64 o.f3, .int .i64 o.f4, .int .i64 o.f5, .int .i64 o.f6, .bool o.f7] 24)).look keyI (t := 34) (e := 4) Try.underlying34 (zeroB _) hx
                        rw [gB_yes (List.mem_map.2 ⟨o, hin, rfl⟩)] at look1
                        simp only [Option.getD_some] at look1
                        have HS2 := Lib.hid hs2
                        clear hMO hin hoC hp c5 c6 hx hs2
                        go_wp2_with fail
                        go_roundw
                        case rel => exact ⟨_, _, HN.out.1.kb (S := NoB) ((KB.refl _ _).alloc _) (fun h => h) (fun h => h), HM3.out.1.alloc _, below_alloc HM3.out.2 _, by have := HN.out.2.2.2; simp; omega⟩
                        case measure => rw [(HN.out.1.kb (S := NoB) ((KB.refl _ _).alloc _) (fun h => h) (fun h => h)).left_eq, H.out.1.left_eq]; exact HN.out.2.1
                      · have z6 : decide (0 < o.f6) = false := decide_eq_false c6
                        clear hMO hoC hp c5 c6 hx
                        go_wp2_with fail
                        go_roundw
                        case rel => exact ⟨_, _, HN.out.1.kb (S := NoB) ((KB.refl _ _).alloc _) (fun h => h) (fun h => h), HM3.out.1.alloc _, below_alloc HM3.out.2 _, by have := HN.out.2.2.2; simp; omega⟩
                        case measure => rw [(HN.out.1.kb (S := NoB) ((KB.refl _ _).alloc _) (fun h => h) (fun h => h)).left_eq, H.out.1.left_eq]; exact HN.out.2.1
                    · have z5 : decide (o.f5 ≤ month) = false := decide_eq_false c5
                      clear hMO hoC hp c5 hx
                      go_wp2_with fail
                      go_roundw
                      case rel => exact ⟨_, _, HN.out.1.kb (S := NoB) ((KB.refl _ _).alloc _) (fun h => h) (fun h => h), HM3.out.1.alloc _, below_alloc HM3.out.2 _, by have := HN.out.2.2.2; simp; omega⟩
                      case measure => rw [(HN.out.1.kb (S := NoB) ((KB.refl _ _).alloc _) (fun h => h) (fun h => h)).left_eq, H.out.1.left_eq]; exact HN.out.2.1
                  · have ne : ¬ o.f1.toList = p.toList := fun h => hp (str_eq.1 h)
                    have ne' : (o.f1.toList == p.toList) = false := beq_eq_false_iff_ne.2 ne
                    clear hMO hoC hp hx
                    go_wp2_with fail
                    go_roundw
                    case rel => exact ⟨_, _, HN.out.1.kb (S := NoB) ((KB.refl _ _).alloc _) (fun h => h) (fun h => h), HM3.out.1.alloc _, below_alloc HM3.out.2 _, by have := HN.out.2.2.2; simp; omega⟩
                    case measure => rw [(HN.out.1.kb (S := NoB) ((KB.refl _ _).alloc _) (fun h => h) (fun h => h)).left_eq, H.out.1.left_eq]; exact HN.out.2.1
  · have HSH := Lib.hid (decide_eq_false hsh)
    go_enter Try.func5, Try.ntmps5
    go_wp2_with (first | (go_at_call 10; refine (head31_c _).mono ?_; rintro e w1 ⟨rfl, hb⟩; have HB := Lib.hid hb; clear hb) | (go_at_call 11; refine (short_t A0 c0 l0 _ _ (Kd.C_below HC.out HB.out) HL.out HSH.out).mono ?_; rintro e w2 ⟨rfl, hb⟩; have HB2 := Lib.hid (below_step HB.out hb); clear hb) | go_in)
    go_ret
    exact ⟨rfl, HB2.out⟩
theorem wageofficelaw31_OrdersNumbers.calls (A0 : Option Addr) (c0 : Nat) (l0 : List Od) (a1 : ByteArray) (a2 : Int) (a3 : Int) (r : Bool) (w : World) (hr0 : Kd.C k24 w A0 l0.length l0) (hc0 : l0.length ≤ c0) (h : wageofficelaw31_OrdersNumbers.f l0 a1 a2 a3 = some r) :
    Calls Try.prog 5 #[.slice A0 l0.length c0, .string a1, .int .i64 a2, .int .i64 a3] w fun e w' => e = .returned (.bool r) ∧ Below w.heap.size w w' := by
  injection h with h
  subst h
  exact numbers_any A0 c0 l0 a1 a2 a3 w hr0 hc0
end Go.Proofs.Ytgbcihbnaecejaa.Q

namespace Go.Proofs.Ytgbcihbnaecejaa.Q
open Go Go.RowKit Go.Proofs.YtgbcihbnaecejaaW.PrintWords Go.Proofs.YtgbcihbnaecejaaW.PrintLast Go.Proofs.YtgbcihbnaecejaaW.PrintMore
set_option linter.unusedVariables false
theorem OrdersNumbers_pure (l0 : List Od) (a1 : ByteArray) (a2 : Int) (a3 : Int) (ok0 : ∀ y ∈ l0, ok24 y) (hm0 : l0.length ≤ maxLen) (ok1 : a1.size ≤ maxLen) (ok2 : (Lit.int .i64 a2).wf = true) (ok3 : (Lit.int .i64 a3).wf = true) : Ev (fun _ => wageofficelaw31_OrdersNumbers.f l0 a1 a2 a3) true := ⟨0, fun _ _ => rfl⟩
end Go.Proofs.Ytgbcihbnaecejaa.Q

namespace Go.Proofs.Ytgbcihbnaecejaa.ordersNumbers
open Go.ChangeShapes Go.WideShapes Go.ChangeAt Go.RowKit
open Go.ChangeMaps (open_string shut_string)
open Go.Proofs.YtgbcihbnaecejaaW.PrintWords Go.Proofs.YtgbcihbnaecejaaW.PrintLast Go.Proofs.Ytgbcihbnaecejaa.Q
set_option linter.unusedVariables false
theorem own : ownKnob Try.prog.godebug = none := by kernel_rfl
theorem laidOut : laidOutB Try.prog = true := by kernel_rfl
set_option maxRecDepth 100000 in
theorem lifted (os : Os) (started : os.Started) (H : Type) (enc : TypeId × Value → H) :
    ReturnsInHanded {} Try.checked os 5 .any (Rows.ordersNumbersSpec.pre6 enc Try.prog Try.f5 Rows.ordersNumbersRow.domain false) (Rows.ordersNumbersSpec.post enc Try.prog Try.f5 false true false false) := by
  refine returnsInHanded_of_change_sized (C := Try.checked) own started (by kernel_rfl) Try.func5
    (ChangeSpec.witness6 (enc := enc) (C := Try.checked) false ⟨#[], #[.slice none 0 0, .string ByteArray.empty, .int .i64 0, .int .i64 0], []⟩ 8 (by kernel_rfl) (by kernel_rfl) (by kernel_rfl) (by kernel_rfl)) ?_
  intro W base args ds gs before hval0 hW hcnd hsz0 _
  have hval : ∀ (j : Nat) t v, Try.f5.params[j]? = some t → args[j]? = some v → Value.okWide Try.prog W .any base t v := hval0
  have hW' := hW
  obtain ⟨p, q, hA0, hV, rfl, hfz, hnd⟩ := hW
  have hA : DataW.TrodAll enc Try.prog W 0 (fun _ => true) true Try.f5.params.toList args.toList ds p := hA0
  rw [Try.params5] at hA hval
  obtain ⟨v0, vs0, d0, ds0, p0, q0, hargs, rfl, rfl, h0, r0⟩ := trodAll_cons hA
  obtain ⟨v1, vs1, d1, ds1, p1, q1, rfl, rfl, rfl, h1, r1⟩ := trodAll_cons r0
  obtain ⟨v2, vs2, d2, ds2, p2, q2, rfl, rfl, rfl, h2, r2⟩ := trodAll_cons r1
  obtain ⟨v3, vs3, d3, ds3, p3, q3, rfl, rfl, rfl, h3, r3⟩ := trodAll_cons r2
  obtain ⟨rfl, rfl, rfl⟩ := trodAll_nil r3
  obtain rfl : args = #[v0, v1, v2, v3] := by cases args; simp_all
  obtain ⟨rfl, rfl⟩ := trodVars_none hV
  have k0 := h0
  have lt0 : ∀ x ∈ p0, x.block < W.heap.size := by obtain ⟨m, hm⟩ := k0; exact DataW.trod_lt m _ _ _ hm
  obtain ⟨A0, l0, c0, rfl, hc0, hr0, ok0, hm0⟩ := open_row Try.underlying22 (by kernel_rfl) opens24 (hval 0 22 v0 rfl rfl) h0
  obtain ⟨a1, rfl, rfl, rfl, ok1⟩ := open_string Try.underlying9 (hval 1 9 v1 rfl rfl) h1
  obtain ⟨a2, rfl, rfl, rfl, ok2⟩ := open_int Try.underlying3 (hval 2 3 v2 rfl rfl) h2
  obtain ⟨a3, rfl, rfl, rfl, ok3⟩ := open_int Try.underlying3 (hval 3 3 v3 rfl rfl) h3
  clear hA0 hval0 hsz0
  obtain ⟨k, hP⟩ := (OrdersNumbers_pure l0 a1 a2 a3 ok0 hm0 ok1 ok2 ok3).rounds
  refine (wageofficelaw31_OrdersNumbers.calls A0 c0 l0 a1 a2 a3 true W hr0 hc0 hP).mono fun e W' ⟨he, bel0⟩ => ?_
  have bel : Below W.heap.size W W' := bel0
  subst he
  exact ⟨_, rfl, _, _, _, [], _, [], hW', trodAll_mk1 (shut_bool Try.underlying4 _), (trodAll_cons_mk (Below.trod laidOut (by kernel_rfl) (of_decide_eq_true (by kernel_rfl)) k0 bel lt0) (trodAll_cons_mk (shut_string Try.underlying9 ok1) (trodAll_cons_mk (shut_int Try.underlying3 ok2) (trodAll_cons_mk (shut_int Try.underlying3 ok3) trodAll_mk0)))), rfl, bel.frame _, fun h => by cases h⟩
theorem over : Rows.ordersNumbersRow.holds Try.pinned (OpenSpec.ofChange Rows.ordersNumbersSpec) :=
  OpenClaim.holds_of_wide 5 Try.f5 rfl rfl rfl rfl rfl rfl rfl ⟨rfl, rfl, rfl, rfl, rfl⟩ rfl rfl rfl rfl rfl (by kernel_rfl) Try.func5 (by kernel_rfl)
    (of_decide_eq_true (by kernel_rfl)) (by unfold Func.isWrapper; first | (rw [if_pos (by decide +kernel)]; kernel_rfl) | (rw [if_neg (by decide +kernel)]; exact ⟨rfl, rfl⟩))
    (fun os started H enc _ => lifted os started H enc)
theorem proved : Rows.OrdersNumbersSaid := over
end Go.Proofs.Ytgbcihbnaecejaa.ordersNumbers
namespace Go.Proofs.Ytgbcihbnaecejaa
theorem ordersNumbers_holds : Rows.OrdersNumbersSaid := ordersNumbers.proved
end Go.Proofs.Ytgbcihbnaecejaa
