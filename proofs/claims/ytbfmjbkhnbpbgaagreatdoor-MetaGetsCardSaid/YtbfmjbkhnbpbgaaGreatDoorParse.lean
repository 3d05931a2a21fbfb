/- Contracts of ParseUint at base 16 (16 digits) and of meta.Parse at names that meta.Name makes. -/
import Derived.Test.YtbfmjbkhnbpbgaaGreatDoorName
set_option linter.unusedVariables false
namespace Go.Proofs.YtbfmjbkhnbpbgaaGreatDoor.H
open Go.RowKit Go.Proofs.YtbfmjbkhnbpbgaaGreatDoorW.PrintWords Go.Proofs.YtbfmjbkhnbpbgaaGreatDoorW.PrintLast Go.Proofs.YtbfmjbkhnbpbgaaGreatDoorW.PrintMore
open Go.Proofs.YtbfmjbkhnbpbgaaGreatDoor.PF Go.Proofs.YtbfmjbkhnbpbgaaGreatDoor.Pl
theorem hexd_lt (d : Nat) (h : d < 16) : (hexd d).toNat = if d < 10 then 48 + d else 87 + d := by
  obtain rfl | rfl | rfl | rfl | rfl | rfl | rfl | rfl | rfl | rfl | rfl | rfl | rfl | rfl | rfl | rfl : d = 0 ∨ d = 1 ∨ d = 2 ∨ d = 3 ∨ d = 4 ∨ d = 5 ∨ d = 6 ∨ d = 7 ∨ d = 8 ∨ d = 9 ∨ d = 10 ∨ d = 11 ∨ d = 12 ∨ d = 13 ∨ d = 14 ∨ d = 15 := by omega
  all_goals rfl
theorem lowD_at : ∀ (k u i : Nat), i < k → (lowD k u)[i]? = some (hexd (u / 16 ^ (k - 1 - i) % 16))
  | 0, _, _, h => by omega
  | k + 1, u, 0, _ => by simp [lowD]
  | k + 1, u, i + 1, h => by
    have := lowD_at k u i (by omega)
    rw [lowD, List.getElem?_cons_succ, this, show k + 1 - 1 - (i + 1) = k - 1 - i by omega]
theorem lowD_rd (u i : Nat) (h : i < 16) : rd (bytesOf (⟨(lowD 16 u).toArray⟩ : ByteArray)) (i : Int) = ((hexd (u / 16 ^ (15 - i) % 16)).toNat : Int) := by
  unfold rd bytesOf
  rw [Int.toNat_natCast, List.getD_eq_getElem?_getD, List.getElem?_map]
  have := lowD_at 16 u i h
  rw [show (⟨(lowD 16 u).toArray⟩ : ByteArray).data.toList = lowD 16 u from rfl, this]
  rfl
set_option maxHeartbeats 400000 in
theorem lower_hex (c : Nat) (h1 : 97 ≤ c) (h2 : c ≤ 102) (w : World) : Calls Tryz.prog 54 #[.int .u8 (c : Int)] w fun e w' => e = .returned (.int .u8 (c : Int)) ∧ w' = w := by
  have hb : Go.bits .or .u8 (c : Int) 32 = (c : Int) := by
    obtain rfl | rfl | rfl | rfl | rfl | rfl : c = 97 ∨ c = 98 ∨ c = 99 ∨ c = 100 ∨ c = 101 ∨ c = 102 := by omega
    all_goals decide
  go_enter Tryz.func54, Tryz.ntmps54
  go_wp2
  go_ret
  exact ⟨rfl, rfl⟩
set_option maxHeartbeats 1000000 in
set_option maxRecDepth 100000 in
theorem parse16i (u : Nat) (hu : u < 18446744073709551616) (w : World) :
    Calls Tryz.prog 40 #[.string ⟨(lowD 16 u).toArray⟩, .int .i64 16, .int .i64 64] w fun e w' => e = .returned (.tuple #[.int .u64 (u : Int), .nilIface]) ∧ Below w.heap.size w w' := by
  have hz := str_size (lowD 16 u)
  rw [lowD_length] at hz
  have HR := Aside0.mk (lowD_rd u)
  obtain ⟨s, es⟩ : ∃ s, (⟨(lowD 16 u).toArray⟩ : ByteArray) = s := ⟨_, rfl⟩
  rw [es] at hz HR ⊢
  have hne : s.toList.isEmpty = false := by
    have : s.toList.length = 16 := by rw [ByteArray.toList_eq, Array.length_toList]; exact hz
    cases h : s.toList with
    | nil => rw [h] at this; simp at this
    | cons a l => rfl
  have HU := Aside0.mk hu
  clear es hu
  have kb := fun W => print_bytes (P := Tryz.prog) 9 22 5 Tryz.underlying9 Tryz.underlying22 Tryz.underlying5 s W
  go_enter Tryz.func40, Tryz.ntmps40
  go_wp2
  obtain ⟨M, hM⟩ : ∃ M, IntKind.u64.wrap (IntKind.u64.wrap 18446744073709551616 - 1) = M := ⟨_, rfl⟩
  rw [hM]
  have HM := Aside0.mk (show 18446744073709551615 ≤ M by rw [← hM]; decide +kernel)
  clear hM
  obtain ⟨C, hC⟩ : ∃ C : Int, 1152921504606846976 = C := ⟨_, rfl⟩
  rw [hC]
  have HC := Aside0.mk hC
  clear hC
  have HB := Aside0.mk (bytes_below (Below.refl w.heap.size w) (Nat.le_refl _) 5 s)
  have HRD := Aside0.mk (bytes_reads w 5 s (by omega))
  clear kb
  go_loopw [12, 13, 101] (fun v12 v13 v101 wr => ∃ k : Nat, k ≤ 16 ∧ v101 = .int .i64 k ∧ v12 = .bool false ∧ v13 = .int .u64 ((u / 16 ^ (16 - k) : Nat) : Int) ∧ Aside0 (Below (Lib.bytesWorld w 5 s).heap.size (Lib.bytesWorld w 5 s) wr)) (fun _ _ v101 _ => (16 - intOf v101).toNat)
  case atStart =>
    have h0 : u / 16 ^ 16 = 0 := Nat.div_eq_of_lt (Nat.lt_of_lt_of_le HU.out (by decide))
    exact ⟨0, by omega, rfl, rfl, by rw [h0]; rfl, ⟨Below.refl _ _⟩⟩
  case round =>
    obtain ⟨k, hk, rfl, rfl, rfl, HBr⟩ := hrel
    by_cases hlt : k < 16
    · obtain ⟨ad, hA, hc⟩ := (HRD.out.below HBr.out).at_ k (by omega) (by omega)
      obtain rfl := Option.some.inj hA
      rw [Int.toNat_natCast, add_plain, HR.out k hlt] at hc
      have hd : u / 16 ^ (15 - k) % 16 < 16 := Nat.mod_lt _ (by decide)
      rw [hexd_lt _ hd] at hc
      have hst : 16 * (u / 16 ^ (16 - k)) + u / 16 ^ (15 - k) % 16 = u / 16 ^ (15 - k) := by
        rw [show 16 - k = (15 - k) + 1 by omega, Nat.pow_succ, ← Nat.div_div_eq_div_mul]
        exact Nat.div_add_mod _ _
      have hle : u / 16 ^ (15 - k) ≤ u := Nat.div_le_self _ _
      have hu := HU.out
      obtain ⟨d, ed⟩ : ∃ d, u / 16 ^ (15 - k) % 16 = d := ⟨_, rfl⟩
      obtain ⟨n, en⟩ : ∃ n, u / 16 ^ (16 - k) = n := ⟨_, rfl⟩
      rw [ed] at hc hd hst
      rw [en] at hst ⊢
      have HN := Aside0.mk (show 16 * n + d = u / 16 ^ (16 - (k + 1)) by rw [show 16 - (k + 1) = 15 - k by omega, ← hst])
      have hC := HC.out
      have hM := HM.out
      have t1 : decide (C ≤ (n : Int)) = false := by rw [← hC]; simp; omega
      have t2 : IntKind.u64.wrap ((n : Int) * 16) = ((16 * n : Nat) : Int) := by rw [IntKind.wrap_u64]; omega
      have t3 : IntKind.u64.wrap (((16 * n : Nat) : Int) + d) = ((16 * n + d : Nat) : Int) := by rw [IntKind.wrap_u64]; omega
      have t4 : decide ((16 * n + d : Nat) < (16 * n : Nat)) = false := by simp
      have t5 : decide (M < ((16 * n + d : Nat) : Int)) = false := by simp only [decide_eq_false_iff_not]; omega
      obtain ⟨m, em⟩ : ∃ m, 16 * n = m := ⟨_, rfl⟩
      rw [em] at t2 t3 t4 t5 HN
      obtain ⟨n1, en1⟩ : ∃ n1, m + d = n1 := ⟨_, rfl⟩
      rw [en1] at t3 t4 t5 HN
      clear hst hle hu ed en hM hA hC em en1
      by_cases h10 : d < 10
      · rw [if_pos h10] at hc
        obtain ⟨c, ec⟩ : ∃ c : Int, ((48 + d : Nat) : Int) = c := ⟨_, rfl⟩
        rw [ec] at hc
        have c1 : 48 ≤ c := by omega
        have c2 : c ≤ 57 := by omega
        have ed : (d : Int) = c - 48 := by omega
        rw [ed] at t3
        clear ec h10 hd ed
        go_wp2
        go_roundw
        case rel => exact ⟨k + 1, by omega, by go_num, rfl, by rw [HN.out], HBr⟩
        case measure => simp [intOf]; omega
      · rw [if_neg h10] at hc
        obtain ⟨c, ec⟩ : ∃ c : Nat, 87 + d = c := ⟨_, rfl⟩
        rw [ec] at hc
        have c1 : 97 ≤ c := by omega
        have c2 : c ≤ 102 := by omega
        have ed : (d : Int) = (c : Int) - 97 + 10 := by omega
        rw [ed] at t3
        clear ec h10 hd ed
        go_wp2_with (go_at_call 54; go_must (refine (lower_hex c c1 c2 _).mono ?_); rintro e w' ⟨rfl, rfl⟩)
        go_roundw
        case rel => exact ⟨k + 1, by omega, by go_num, rfl, by rw [HN.out], HBr⟩
        case measure => simp [intOf]; omega
    · have e : k = 16 := by omega
      subst e
      have HE := Aside0.mk (show u / 16 ^ (16 - 16) = u by simp)
      clear hlt hk
      go_wp2
      go_ret2
      exact ⟨by first | rfl | exact congrArg (fun z : Nat => Ending.returned (.tuple #[.int .u64 (z : Int), .nilIface])) HE.out, below_step HB.out HBr.out⟩
set_option maxHeartbeats 400000 in
theorem parse16 (u : Nat) (hu : u < 18446744073709551616) (w : World) :
    Calls Tryz.prog 23 #[.string ⟨(lowD 16 u).toArray⟩, .int .i64 16, .int .i64 64] w fun e w' => e = .returned (.tuple #[.int .u64 (u : Int), .nilIface]) ∧ Below w.heap.size w w' := by
  have hu30 := Tryz.underlying28
  have HU := Aside0.mk hu
  clear hu
  go_enter Tryz.func23, Tryz.ntmps23
  go_wp2_with fail
  refine (parse16i u HU.out _).mono ?_
  rintro e w' ⟨rfl, hb⟩
  have HB := Aside0.mk hb
  clear hb
  go_wp2
  go_ret2
  exact ⟨rfl, HB.out⟩
end Go.Proofs.YtbfmjbkhnbpbgaaGreatDoor.H
