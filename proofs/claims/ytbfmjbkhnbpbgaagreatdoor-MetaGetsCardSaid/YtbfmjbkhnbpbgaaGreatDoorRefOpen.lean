/- The contract of tankardref01.Open. -/
import Derived.Test.YtbfmjbkhnbpbgaaGreatDoorRefL
import Derived.Deep.RegionWith
set_option linter.unusedVariables false
set_option linter.unusedSimpArgs false
namespace Go.Proofs.YtbfmjbkhnbpbgaaGreatDoor.H
open Go.RowKit Go.Proofs.YtbfmjbkhnbpbgaaGreatDoorW.PrintWords Go.Proofs.YtbfmjbkhnbpbgaaGreatDoorW.PrintLast Go.Proofs.YtbfmjbkhnbpbgaaGreatDoorW.PrintMore
open Go.Proofs.YtbfmjbkhnbpbgaaGreatDoor.PF Go.Proofs.YtbfmjbkhnbpbgaaGreatDoor.Pl
set_option maxHeartbeats 400000 in
set_option maxRecDepth 100000 in
theorem ref_Open_short (A0 : Option Addr) (c0 : Nat) (l0 : List Int) (w : World) (h : l0.length < 4) :
    Calls Tryz.prog 19 #[.slice A0 l0.length c0] w fun e w' => e = .returned (.tuple #[.slice none 0 0, .int .i64 2]) ∧ Below w.heap.size w w' := by
  go_enter Tryz.func19, Tryz.ntmps19
  go_wp2
  go_ret2
  exact ⟨rfl, Below.refl _ _⟩
theorem strOfNums_ne {xs ys : List Int} (hx : Bytes xs) (hy : Bytes ys) : ((strOfNums xs).toList == (strOfNums ys).toList) = decide (xs = ys) := by
  rw [Lib.strOfNums_toList, Lib.strOfNums_toList]
  exact bytesOf_eq hx hy
set_option maxHeartbeats 1600000 in
set_option maxRecDepth 100000 in
theorem ref_Open_sum (A0 : Option Addr) (c0 : Nat) (l0 : List Int) (w : World) (hr0 : Kd.C (Kd.int .u8) w A0 l0.length l0) (hc0 : l0.length ≤ c0) (hby : Bytes l0) (hlen : l0.length ≤ 140737488355000) (h4 : 4 ≤ l0.length) (hs : sealed (l0.take (l0.length - 4)) ≠ l0) :
    Calls Tryz.prog 19 #[.slice A0 l0.length c0] w fun e w' => e = .returned (.tuple #[.slice none 0 0, .int .i64 7]) ∧ Below w.heap.size w w' := by
  have htl : (l0.take (l0.length - 4)).length = l0.length - 4 := by rw [List.length_take]; omega
  have HSL := Aside0.mk (fun W (hb : Below w.heap.size w W) => tankardref01_Seal.calls (10 * l0.length + 20) A0 c0 (l0.take (l0.length - 4)) _ W (Kd.C_take (m := l0.length - 4) (Kd.C_below hr0 hb) (by omega)) (by omega) (seal_f _ (hby.take _) (by omega) _ (by omega)))
  rw [htl] at HSL
  have HX := Aside0.mk (fun W (hb : Below w.heap.size w W) => conv_of_C (c := c0) (Kd.C_below hr0 hb))
  have HE := Aside0.mk (strOfNums_ne (seal_bytes (hby.take (l0.length - 4))) hby)
  rw [decide_eq_false hs] at HE
  obtain ⟨s1, hs1⟩ : ∃ s, strOfNums (sealed (l0.take (l0.length - 4))) = s := ⟨_, rfl⟩
  obtain ⟨s2, hs2⟩ : ∃ s, strOfNums l0 = s := ⟨_, rfl⟩
  rw [hs1, hs2] at HE
  rw [hs2] at HX
  have HS1 := Aside0.mk hs1
  obtain ⟨N, hN⟩ : ∃ N, l0.length = N := ⟨_, rfl⟩
  rw [hN] at HX HSL HS1 h4 hc0 hlen ⊢
  have hcutf : ∀ W : World, (Instr.slice 22 (.slice A0 N c0) none (some (.int .i64 ((N : Int) - 4))) none).run Tryz.prog W = .ok (.slice A0 (N - 4) c0) W := by
    obtain ⟨i0, hi0, hs0⟩ := infoU8
    intro W
    have := cut_to 22 5 .i64 Tryz.underlying22 hi0 A0 N c0 ((N : Int) - 4) (by omega) (by omega) hc0 W
    rwa [show ((N : Int) - 4).toNat = N - 4 by omega] at this
  have q0 := Aside0.mk (Below.refl w.heap.size w)
  clear htl hs hs1 hs2 hr0 hN hby
  go_enter Tryz.func19, Tryz.ntmps19
  go_upto_region 4 with (fail)
  go_cut [17] (fun vv wd => vv = .bool true ∧ Aside0 (Below w.heap.size w wd))
  case first =>
    have HE1 := HE.out
    have q8 : Aside0 (Below w.heap.size w w.drew) := ⟨q0.out.drew⟩
    refine start_ (n := 8) (S := fun W => (convert 22 9 (.slice A0 N c0)).run Tryz.prog W = .ok (.string s2) W) (ds := []) #[false, false, false, false, false, false, false, false] (by kernel_rfl) rfl rfl (HX.out _ q8.out) (fun hHeld => ?_)
    refine pure_ (i := 0) (N := (some 10)) (v := ?_) (a' := ?_) #[true, false, false, false, false, false, false, false] rfl rfl (by kernel_rfl) (fun _ _ _ h => h) (Or.inl ⟨by rfl, ?_⟩) ?_ ?_
    rotate_left
    · intro w'
      go_simp
      with_reducible rfl
    rotate_left
    · simp only [Act.put, List.setIfInBounds_toArray, List.set_cons_zero, List.set_cons_succ, i64_w, i32_w]
      rfl
    refine pure_ (i := 1) (N := (some 11)) (v := ?_) (a' := ?_) #[true, true, false, false, false, false, false, false] rfl rfl (by kernel_rfl) (fun _ _ _ h => h) (Or.inl ⟨by rfl, ?_⟩) ?_ ?_
    rotate_left
    · intro w'
      go_simp
      with_reducible rfl
    rotate_left
    · simp only [Act.put, List.setIfInBounds_toArray, List.set_cons_zero, List.set_cons_succ, i64_w, i32_w]
      rfl
    refine pure_ (i := 2) (N := (some 12)) (v := ?_) (a' := ?_) #[true, true, true, false, false, false, false, false] rfl rfl (by kernel_rfl) (fun _ _ _ h => h) (Or.inl ⟨by rfl, ?_⟩) ?_ ?_
    rotate_left
    · intro w'
      go_simp
      with_reducible rfl
    rotate_left
    · simp only [Act.put, List.setIfInBounds_toArray, List.set_cons_zero, List.set_cons_succ, i64_w, i32_w]
      rfl
    refine pure_ (i := 5) (N := (some 15)) (v := ?_) (a' := ?_) #[true, true, true, false, false, true, false, false] rfl rfl (by kernel_rfl) (fun _ _ _ h => h) (Or.inl ⟨by rfl, ?_⟩) ?_ ?_
    rotate_left
    · intro w'
      go_simp
      with_reducible rfl
    rotate_left
    · simp only [Act.put, List.setIfInBounds_toArray, List.set_cons_zero, List.set_cons_succ, i64_w, i32_w]
      rfl
    refine take_ (i := 6) (N := (some 16)) (v := ?_) (a' := ?_) #[true, true, true, false, false, true, true, false] rfl rfl (by kernel_rfl) (fun _ _ _ h => h) (Or.inl ⟨by rfl, ?_⟩) hHeld ?_ ?_
    rotate_left
    · intro w' s0
      go_simp
      with_reducible rfl
    rotate_left
    · simp only [Act.put, List.setIfInBounds_toArray, List.set_cons_zero, List.set_cons_succ, i64_w, i32_w]
      rfl
    refine one_ (i := 3) (N := (some 13)) #[true, true, true, true, false, true, true, false] rfl rfl (by kernel_rfl) (by decide) (fun K hK => ?_)
    refine goes_ Tryz.func35 (by kernel_rfl) rfl #[.slice A0 (N - 4) c0] (by rfl) rfl rfl (by (try simp only [List.map_toArray, List.map_cons, List.map_nil]); first | done | rfl) ?_
    refine Calls.mono (HSL.out _ q8.out) ?_
    rintro e' w9 ⟨v9, rfl, hm9, hb9⟩
    have q9 : Aside0 (Below w.heap.size w w9) := ⟨below_step q8.out hb9⟩
    have j9 := Aside0.mk (conv_own (w := w) hm9)
    rw [HS1.out] at j9
    clear hm9 hb9
    refine ⟨_, rfl, ?_⟩
    refine hK.out _ _ (HX.out _ q9.out) (fun hHeld => ?_)
    clear hK K
    refine norm_ (a' := ?_) ?_ ?_
    rotate_left
    · show Act.put _ (some 13) _ = _
      simp only [Act.put, List.setIfInBounds_toArray, List.set_cons_zero, List.set_cons_succ, i64_w, i32_w]
      rfl
    refine one_ (i := 4) (N := (some 14)) #[true, true, true, true, true, true, true, false] rfl rfl (by kernel_rfl) (by decide) (fun K hK => ?_)
    refine value_ (v := .string s1) (w1 := w9) (by rfl) rfl (by have := j9.out; go_simp) ?_
    refine hK.out _ _ (HX.out _ q9.out) (fun hHeld => ?_)
    clear hK K
    refine norm_ (a' := ?_) ?_ ?_
    rotate_left
    · show Act.put _ (some 14) _ = _
      simp only [Act.put, List.setIfInBounds_toArray, List.set_cons_zero, List.set_cons_succ, i64_w, i32_w]
      rfl
    refine pure_ (i := 7) (N := (some 17)) (v := ?_) (a' := ?_) #[true, true, true, true, true, true, true, true] rfl rfl (by kernel_rfl) (fun _ _ _ h => h) (Or.inl ⟨by rfl, ?_⟩) ?_ ?_
    rotate_left
    · intro w'
      go_simp
      with_reducible rfl
    rotate_left
    · simp only [Act.put, List.setIfInBounds_toArray, List.set_cons_zero, List.set_cons_succ, i64_w, i32_w]
      rfl
    refine done_ (by kernel_rfl) ?_
    go_wp2
    go_meet
    case rel => exact ⟨by first | rfl | simp, q9⟩
  case rest =>
    obtain ⟨rfl, HQ⟩ := hcut
    go_wp2
    go_ret2
    exact ⟨rfl, HQ.out⟩
set_option maxHeartbeats 1600000 in
set_option maxRecDepth 100000 in
theorem ref_Open_ok (A0 : Option Addr) (c0 : Nat) (l0 : List Int) (w : World) (hr0 : Kd.C (Kd.int .u8) w A0 l0.length l0) (hc0 : l0.length ≤ c0) (hby : Bytes l0) (hlen : l0.length ≤ 140737488355000) (h4 : 4 ≤ l0.length) (hs : sealed (l0.take (l0.length - 4)) = l0) :
    Calls Tryz.prog 19 #[.slice A0 l0.length c0] w fun e w' => e = .returned (.tuple #[.slice A0 (l0.length - 4) c0, .int .i64 0]) ∧ Below w.heap.size w w' := by
  have htl : (l0.take (l0.length - 4)).length = l0.length - 4 := by rw [List.length_take]; omega
  have HSL := Aside0.mk (fun W (hb : Below w.heap.size w W) => tankardref01_Seal.calls (10 * l0.length + 20) A0 c0 (l0.take (l0.length - 4)) _ W (Kd.C_take (m := l0.length - 4) (Kd.C_below hr0 hb) (by omega)) (by omega) (seal_f _ (hby.take _) (by omega) _ (by omega)))
  rw [htl] at HSL
  have HX := Aside0.mk (fun W (hb : Below w.heap.size w W) => conv_of_C (c := c0) (Kd.C_below hr0 hb))
  have HE := Aside0.mk (strOfNums_ne (seal_bytes (hby.take (l0.length - 4))) hby)
  rw [decide_eq_true hs] at HE
  obtain ⟨s1, hs1⟩ : ∃ s, strOfNums (sealed (l0.take (l0.length - 4))) = s := ⟨_, rfl⟩
  obtain ⟨s2, hs2⟩ : ∃ s, strOfNums l0 = s := ⟨_, rfl⟩
  rw [hs1, hs2] at HE
  rw [hs2] at HX
  have HS1 := Aside0.mk hs1
  obtain ⟨N, hN⟩ : ∃ N, l0.length = N := ⟨_, rfl⟩
  rw [hN] at HX HSL HS1 h4 hc0 hlen ⊢
  have hcutf : ∀ W : World, (Instr.slice 22 (.slice A0 N c0) none (some (.int .i64 ((N : Int) - 4))) none).run Tryz.prog W = .ok (.slice A0 (N - 4) c0) W := by
    obtain ⟨i0, hi0, hs0⟩ := infoU8
    intro W
    have := cut_to 22 5 .i64 Tryz.underlying22 hi0 A0 N c0 ((N : Int) - 4) (by omega) (by omega) hc0 W
    rwa [show ((N : Int) - 4).toNat = N - 4 by omega] at this
  have q0 := Aside0.mk (Below.refl w.heap.size w)
  clear htl hs hs1 hs2 hr0 hN hby
  go_enter Tryz.func19, Tryz.ntmps19
  go_upto_region 4 with (fail)
  go_cut [17] (fun vv wd => vv = .bool false ∧ Aside0 (Below w.heap.size w wd))
  case first =>
    have HE1 := HE.out
    have q8 : Aside0 (Below w.heap.size w w.drew) := ⟨q0.out.drew⟩
    refine start_ (n := 8) (S := fun W => (convert 22 9 (.slice A0 N c0)).run Tryz.prog W = .ok (.string s2) W) (ds := []) #[false, false, false, false, false, false, false, false] (by kernel_rfl) rfl rfl (HX.out _ q8.out) (fun hHeld => ?_)
    refine pure_ (i := 0) (N := (some 10)) (v := ?_) (a' := ?_) #[true, false, false, false, false, false, false, false] rfl rfl (by kernel_rfl) (fun _ _ _ h => h) (Or.inl ⟨by rfl, ?_⟩) ?_ ?_
    rotate_left
    · intro w'
      go_simp
      with_reducible rfl
    rotate_left
    · simp only [Act.put, List.setIfInBounds_toArray, List.set_cons_zero, List.set_cons_succ, i64_w, i32_w]
      rfl
    refine pure_ (i := 1) (N := (some 11)) (v := ?_) (a' := ?_) #[true, true, false, false, false, false, false, false] rfl rfl (by kernel_rfl) (fun _ _ _ h => h) (Or.inl ⟨by rfl, ?_⟩) ?_ ?_
    rotate_left
    · intro w'
      go_simp
      with_reducible rfl
    rotate_left
    · simp only [Act.put, List.setIfInBounds_toArray, List.set_cons_zero, List.set_cons_succ, i64_w, i32_w]
      rfl
    refine pure_ (i := 2) (N := (some 12)) (v := ?_) (a' := ?_) #[true, true, true, false, false, false, false, false] rfl rfl (by kernel_rfl) (fun _ _ _ h => h) (Or.inl ⟨by rfl, ?_⟩) ?_ ?_
    rotate_left
    · intro w'
      go_simp
      with_reducible rfl
    rotate_left
    · simp only [Act.put, List.setIfInBounds_toArray, List.set_cons_zero, List.set_cons_succ, i64_w, i32_w]
      rfl
    refine pure_ (i := 5) (N := (some 15)) (v := ?_) (a' := ?_) #[true, true, true, false, false, true, false, false] rfl rfl (by kernel_rfl) (fun _ _ _ h => h) (Or.inl ⟨by rfl, ?_⟩) ?_ ?_
    rotate_left
    · intro w'
      go_simp
      with_reducible rfl
    rotate_left
    · simp only [Act.put, List.setIfInBounds_toArray, List.set_cons_zero, List.set_cons_succ, i64_w, i32_w]
      rfl
    refine take_ (i := 6) (N := (some 16)) (v := ?_) (a' := ?_) #[true, true, true, false, false, true, true, false] rfl rfl (by kernel_rfl) (fun _ _ _ h => h) (Or.inl ⟨by rfl, ?_⟩) hHeld ?_ ?_
    rotate_left
    · intro w' s0
      go_simp
      with_reducible rfl
    rotate_left
    · simp only [Act.put, List.setIfInBounds_toArray, List.set_cons_zero, List.set_cons_succ, i64_w, i32_w]
      rfl
    refine one_ (i := 3) (N := (some 13)) #[true, true, true, true, false, true, true, false] rfl rfl (by kernel_rfl) (by decide) (fun K hK => ?_)
    refine goes_ Tryz.func35 (by kernel_rfl) rfl #[.slice A0 (N - 4) c0] (by rfl) rfl rfl (by (try simp only [List.map_toArray, List.map_cons, List.map_nil]); first | done | rfl) ?_
    refine Calls.mono (HSL.out _ q8.out) ?_
    rintro e' w9 ⟨v9, rfl, hm9, hb9⟩
    have q9 : Aside0 (Below w.heap.size w w9) := ⟨below_step q8.out hb9⟩
    have j9 := Aside0.mk (conv_own (w := w) hm9)
    rw [HS1.out] at j9
    clear hm9 hb9
    refine ⟨_, rfl, ?_⟩
    refine hK.out _ _ (HX.out _ q9.out) (fun hHeld => ?_)
    clear hK K
    refine norm_ (a' := ?_) ?_ ?_
    rotate_left
    · show Act.put _ (some 13) _ = _
      simp only [Act.put, List.setIfInBounds_toArray, List.set_cons_zero, List.set_cons_succ, i64_w, i32_w]
      rfl
    refine one_ (i := 4) (N := (some 14)) #[true, true, true, true, true, true, true, false] rfl rfl (by kernel_rfl) (by decide) (fun K hK => ?_)
    refine value_ (v := .string s1) (w1 := w9) (by rfl) rfl (by have := j9.out; go_simp) ?_
    refine hK.out _ _ (HX.out _ q9.out) (fun hHeld => ?_)
    clear hK K
    refine norm_ (a' := ?_) ?_ ?_
    rotate_left
    · show Act.put _ (some 14) _ = _
      simp only [Act.put, List.setIfInBounds_toArray, List.set_cons_zero, List.set_cons_succ, i64_w, i32_w]
      rfl
    refine pure_ (i := 7) (N := (some 17)) (v := ?_) (a' := ?_) #[true, true, true, true, true, true, true, true] rfl rfl (by kernel_rfl) (fun _ _ _ h => h) (Or.inl ⟨by rfl, ?_⟩) ?_ ?_
    rotate_left
    · intro w'
      go_simp
      with_reducible rfl
    rotate_left
    · simp only [Act.put, List.setIfInBounds_toArray, List.set_cons_zero, List.set_cons_succ, i64_w, i32_w]
      rfl
    refine done_ (by kernel_rfl) ?_
    go_wp2
    go_meet
    case rel => exact ⟨by first | rfl | simp, q9⟩
  case rest =>
    obtain ⟨rfl, HQ⟩ := hcut
    go_wp2
    go_ret2
    exact ⟨rfl, HQ.out⟩
end Go.Proofs.YtbfmjbkhnbpbgaaGreatDoor.H
