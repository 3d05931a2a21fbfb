/- Contracts of meta.Parse at names that meta.Name makes. -/
import Derived.Test.YtbfmjbkhnbpbgaaGreatDoorSplit
set_option linter.unusedVariables false
namespace Go.Proofs.YtbfmjbkhnbpbgaaGreatDoor.H
open Go.RowKit Go.Proofs.YtbfmjbkhnbpbgaaGreatDoorW.PrintWords Go.Proofs.YtbfmjbkhnbpbgaaGreatDoorW.PrintLast Go.Proofs.YtbfmjbkhnbpbgaaGreatDoorW.PrintMore
open Go.Proofs.YtbfmjbkhnbpbgaaGreatDoor.PF Go.Proofs.YtbfmjbkhnbpbgaaGreatDoor.Pl
theorem nameW_parts (u : Nat) (c : UInt8) : nameW u c = [98] ++ 47 :: (lowD 16 u ++ 47 :: [c]) := by simp [nameW]
theorem nameP_parts (u n : Nat) : nameP u n = [98] ++ 47 :: (lowD 16 u ++ 47 :: (112 :: dec3 n)) := by simp [nameP]
theorem results_tmp4 {fn : Func} {t u v x : Tmp} (h : fn.results = #[.tmp t, .tmp u, .tmp v, .tmp x]) (tmps : Array Value) (P : Program) (w : World) :
    (results fn tmps).run P w = .ok (.tuple #[tmps.getD t undef, tmps.getD u undef, tmps.getD v undef, tmps.getD x undef]) w := by
  simp [results, h]
set_option maxHeartbeats 1000000 in
set_option maxRecDepth 100000 in
theorem parse_w_109 (u : Nat) (hu : u < 18446744073709551616) (w : World) (hg : Gl w) :
    Calls Tryz.prog 10 #[.string ⟨(nameW u 109).toArray⟩] w fun e w' => e = .returned (.tuple #[.int .u64 (u : Int), .string ⟨#[109]⟩, .int .i64 0, .bool true]) ∧ Below w.heap.size w w' := by
  have hS := Aside0.mk (split3 w hg [98] (lowD 16 u) [109] (by decide) (lowD_ne 16 u) (by decide) (by simp [lowD_length]))
  rw [← nameW_parts] at hS
  have HN := Aside0.mk (fun W hW => name_w u 109 0 hu W hW (by decide))
  have HP := Aside0.mk (fun W => parse16 u hu W)
  obtain ⟨s, es⟩ : ∃ s, (⟨(nameW u 109).toArray⟩ : ByteArray) = s := ⟨_, rfl⟩
  rw [es] at hS HN ⊢
  obtain ⟨b, eb⟩ : ∃ b, (⟨(lowD 16 u).toArray⟩ : ByteArray) = b := ⟨_, rfl⟩
  rw [eb] at hS HP
  have HB := Aside0.mk (Below.refl w.heap.size w)
  have hu30 := Tryz.underlying28
  clear es eb hu
  go_enter Tryz.func10, Tryz.ntmps10
  go_wp2_with fail
  refine hS.out.mono ?_
  rintro e w1 ⟨rfl, rfl⟩
  have HB1 := Aside0.mk (below_alloc HB.out (.cells #[.string ⟨#[98]⟩, .string b, .string ⟨#[109]⟩] 9))
  clear hS HB
  go_wp2_with fail
  refine (HP.out _).mono ?_
  rintro e w2 ⟨rfl, hb⟩
  have BK := blk_after hb
  have z2 : w2.cell? ⟨w.heap.size, 2, none⟩ = some (.string ⟨#[109]⟩) := (blk_cell BK 2).trans rfl
  have HB2 := Aside0.mk (below_step HB1.out hb)
  clear hb BK HB1 HP
  have hx : (⟨#[109]⟩ : ByteArray).extract 0 1 = ⟨#[109]⟩ := rfl
  go_wp2_with fail
  refine (HN.out _ (hg.below HB2.out)).mono ?_
  rintro e w3 ⟨rfl, hb⟩
  have HB3 := Aside0.mk (below_step HB2.out hb)
  clear hb HB2 HN
  go_wp2
  refine bodyPost_ret (results_tmp4 rfl _ _ _) rfl ?_
  exact ⟨rfl, HB3.out⟩
set_option maxHeartbeats 1000000 in
set_option maxRecDepth 100000 in
theorem parse_w_105 (u : Nat) (hu : u < 18446744073709551616) (w : World) (hg : Gl w) :
    Calls Tryz.prog 10 #[.string ⟨(nameW u 105).toArray⟩] w fun e w' => e = .returned (.tuple #[.int .u64 (u : Int), .string ⟨#[105]⟩, .int .i64 0, .bool true]) ∧ Below w.heap.size w w' := by
  have hS := Aside0.mk (split3 w hg [98] (lowD 16 u) [105] (by decide) (lowD_ne 16 u) (by decide) (by simp [lowD_length]))
  rw [← nameW_parts] at hS
  have HN := Aside0.mk (fun W hW => name_w u 105 0 hu W hW (by decide))
  have HP := Aside0.mk (fun W => parse16 u hu W)
  obtain ⟨s, es⟩ : ∃ s, (⟨(nameW u 105).toArray⟩ : ByteArray) = s := ⟨_, rfl⟩
  rw [es] at hS HN ⊢
  obtain ⟨b, eb⟩ : ∃ b, (⟨(lowD 16 u).toArray⟩ : ByteArray) = b := ⟨_, rfl⟩
  rw [eb] at hS HP
  have HB := Aside0.mk (Below.refl w.heap.size w)
  have hu30 := Tryz.underlying28
  clear es eb hu
  go_enter Tryz.func10, Tryz.ntmps10
  go_wp2_with fail
  refine hS.out.mono ?_
  rintro e w1 ⟨rfl, rfl⟩
  have HB1 := Aside0.mk (below_alloc HB.out (.cells #[.string ⟨#[98]⟩, .string b, .string ⟨#[105]⟩] 9))
  clear hS HB
  go_wp2_with fail
  refine (HP.out _).mono ?_
  rintro e w2 ⟨rfl, hb⟩
  have BK := blk_after hb
  have z2 : w2.cell? ⟨w.heap.size, 2, none⟩ = some (.string ⟨#[105]⟩) := (blk_cell BK 2).trans rfl
  have HB2 := Aside0.mk (below_step HB1.out hb)
  clear hb BK HB1 HP
  have hx : (⟨#[105]⟩ : ByteArray).extract 0 1 = ⟨#[105]⟩ := rfl
  go_wp2_with fail
  refine (HN.out _ (hg.below HB2.out)).mono ?_
  rintro e w3 ⟨rfl, hb⟩
  have HB3 := Aside0.mk (below_step HB2.out hb)
  clear hb HB2 HN
  go_wp2
  refine bodyPost_ret (results_tmp4 rfl _ _ _) rfl ?_
  exact ⟨rfl, HB3.out⟩
set_option maxHeartbeats 1000000 in
set_option maxRecDepth 100000 in
theorem parse_w_102 (u : Nat) (hu : u < 18446744073709551616) (w : World) (hg : Gl w) :
    Calls Tryz.prog 10 #[.string ⟨(nameW u 102).toArray⟩] w fun e w' => e = .returned (.tuple #[.int .u64 (u : Int), .string ⟨#[102]⟩, .int .i64 0, .bool true]) ∧ Below w.heap.size w w' := by
  have hS := Aside0.mk (split3 w hg [98] (lowD 16 u) [102] (by decide) (lowD_ne 16 u) (by decide) (by simp [lowD_length]))
  rw [← nameW_parts] at hS
  have HN := Aside0.mk (fun W hW => name_w u 102 0 hu W hW (by decide))
  have HP := Aside0.mk (fun W => parse16 u hu W)
  obtain ⟨s, es⟩ : ∃ s, (⟨(nameW u 102).toArray⟩ : ByteArray) = s := ⟨_, rfl⟩
  rw [es] at hS HN ⊢
  obtain ⟨b, eb⟩ : ∃ b, (⟨(lowD 16 u).toArray⟩ : ByteArray) = b := ⟨_, rfl⟩
  rw [eb] at hS HP
  have HB := Aside0.mk (Below.refl w.heap.size w)
  have hu30 := Tryz.underlying28
  clear es eb hu
  go_enter Tryz.func10, Tryz.ntmps10
  go_wp2_with fail
  refine hS.out.mono ?_
  rintro e w1 ⟨rfl, rfl⟩
  have HB1 := Aside0.mk (below_alloc HB.out (.cells #[.string ⟨#[98]⟩, .string b, .string ⟨#[102]⟩] 9))
  clear hS HB
  go_wp2_with fail
  refine (HP.out _).mono ?_
  rintro e w2 ⟨rfl, hb⟩
  have BK := blk_after hb
  have z2 : w2.cell? ⟨w.heap.size, 2, none⟩ = some (.string ⟨#[102]⟩) := (blk_cell BK 2).trans rfl
  have HB2 := Aside0.mk (below_step HB1.out hb)
  clear hb BK HB1 HP
  have hx : (⟨#[102]⟩ : ByteArray).extract 0 1 = ⟨#[102]⟩ := rfl
  go_wp2_with fail
  refine (HN.out _ (hg.below HB2.out)).mono ?_
  rintro e w3 ⟨rfl, hb⟩
  have HB3 := Aside0.mk (below_step HB2.out hb)
  clear hb HB2 HN
  go_wp2
  refine bodyPost_ret (results_tmp4 rfl _ _ _) rfl ?_
  exact ⟨rfl, HB3.out⟩
set_option maxHeartbeats 1000000 in
set_option maxRecDepth 100000 in
theorem parse_w_120 (u : Nat) (hu : u < 18446744073709551616) (w : World) (hg : Gl w) :
    Calls Tryz.prog 10 #[.string ⟨(nameW u 120).toArray⟩] w fun e w' => e = .returned (.tuple #[.int .u64 (u : Int), .string ⟨#[120]⟩, .int .i64 0, .bool true]) ∧ Below w.heap.size w w' := by
  have hS := Aside0.mk (split3 w hg [98] (lowD 16 u) [120] (by decide) (lowD_ne 16 u) (by decide) (by simp [lowD_length]))
  rw [← nameW_parts] at hS
  have HN := Aside0.mk (fun W hW => name_w u 120 0 hu W hW (by decide))
  have HP := Aside0.mk (fun W => parse16 u hu W)
  obtain ⟨s, es⟩ : ∃ s, (⟨(nameW u 120).toArray⟩ : ByteArray) = s := ⟨_, rfl⟩
  rw [es] at hS HN ⊢
  obtain ⟨b, eb⟩ : ∃ b, (⟨(lowD 16 u).toArray⟩ : ByteArray) = b := ⟨_, rfl⟩
  rw [eb] at hS HP
  have HB := Aside0.mk (Below.refl w.heap.size w)
  have hu30 := Tryz.underlying28
  clear es eb hu
  go_enter Tryz.func10, Tryz.ntmps10
  go_wp2_with fail
  refine hS.out.mono ?_
  rintro e w1 ⟨rfl, rfl⟩
  have HB1 := Aside0.mk (below_alloc HB.out (.cells #[.string ⟨#[98]⟩, .string b, .string ⟨#[120]⟩] 9))
  clear hS HB
  go_wp2_with fail
  refine (HP.out _).mono ?_
  rintro e w2 ⟨rfl, hb⟩
  have BK := blk_after hb
  have z2 : w2.cell? ⟨w.heap.size, 2, none⟩ = some (.string ⟨#[120]⟩) := (blk_cell BK 2).trans rfl
  have HB2 := Aside0.mk (below_step HB1.out hb)
  clear hb BK HB1 HP
  have hx : (⟨#[120]⟩ : ByteArray).extract 0 1 = ⟨#[120]⟩ := rfl
  go_wp2_with fail
  refine (HN.out _ (hg.below HB2.out)).mono ?_
  rintro e w3 ⟨rfl, hb⟩
  have HB3 := Aside0.mk (below_step HB2.out hb)
  clear hb HB2 HN
  go_wp2
  refine bodyPost_ret (results_tmp4 rfl _ _ _) rfl ?_
  exact ⟨rfl, HB3.out⟩
theorem ext_all (a : UInt8) (l : List UInt8) (h : l.length = 3) : (⟨(a :: l).toArray⟩ : ByteArray).extract 0 1 = ⟨#[a]⟩ ∧ (⟨(a :: l).toArray⟩ : ByteArray).extract 1 4 = ⟨l.toArray⟩ := by
  match l, h with
  | [x, y, z], _ => exact ⟨rfl, rfl⟩
set_option maxHeartbeats 1000000 in
set_option maxRecDepth 100000 in
theorem parse_p (u n : Nat) (hu : u < 18446744073709551616) (hn : n < 1000) (w : World) (hg : Gl w) :
    Calls Tryz.prog 10 #[.string ⟨(nameP u n).toArray⟩] w fun e w' => e = .returned (.tuple #[.int .u64 (u : Int), .string ⟨#[112]⟩, .int .i64 (n : Int), .bool true]) ∧ Below w.heap.size w w' := by
  have hS := Aside0.mk (split3 w hg [98] (lowD 16 u) (112 :: dec3 n) (by decide) (lowD_ne 16 u) (fun h => (List.mem_cons.1 h).elim (by decide) (dec3_ne n hn)) (by simp [lowD_length, dec3]))
  rw [← nameP_parts] at hS
  have HN := Aside0.mk (fun W hW => name_p u (n : Int) n hu W hW (by omega) (.inr ⟨by omega, by omega⟩))
  have HP := Aside0.mk (fun W => parse16 u hu W)
  obtain ⟨hx0, hx1⟩ := ext_all 112 (dec3 n) rfl
  have HA := Aside0.mk (fun W => Tryz.strconv_Atoi ⟨(dec3 n).toArray⟩ (n : Int) (by rw [str_size]; exact (by decide : 3 ≤ 18)) (dec3_atoi n hn) W)
  have hqz := str_size (112 :: dec3 n)
  rw [show (112 :: dec3 n).length = 4 from rfl] at hqz
  obtain ⟨s, es⟩ : ∃ s, (⟨(nameP u n).toArray⟩ : ByteArray) = s := ⟨_, rfl⟩
  rw [es] at hS HN ⊢
  obtain ⟨b, eb⟩ : ∃ b, (⟨(lowD 16 u).toArray⟩ : ByteArray) = b := ⟨_, rfl⟩
  rw [eb] at hS HP
  obtain ⟨d, ed⟩ : ∃ d, (⟨(dec3 n).toArray⟩ : ByteArray) = d := ⟨_, rfl⟩
  rw [ed] at hx1 HA
  obtain ⟨q, eq⟩ : ∃ q, (⟨(112 :: dec3 n).toArray⟩ : ByteArray) = q := ⟨_, rfl⟩
  rw [eq] at hS hx0 hx1 hqz
  have hne : q.toList.isEmpty = false := by
    have : q.toList.length = 4 := by rw [ByteArray.toList_eq, Array.length_toList]; exact hqz
    cases h : q.toList with
    | nil => rw [h] at this; simp at this
    | cons a l => rfl
  have HB := Aside0.mk (Below.refl w.heap.size w)
  have hu30 := Tryz.underlying28
  clear es eb hu ed eq hn
  go_enter Tryz.func10, Tryz.ntmps10
  go_wp2_with fail
  refine hS.out.mono ?_
  rintro e w1 ⟨rfl, rfl⟩
  have HB1 := Aside0.mk (below_alloc HB.out (.cells #[.string ⟨#[98]⟩, .string b, .string q] 9))
  clear hS HB
  go_wp2_with fail
  refine (HP.out _).mono ?_
  rintro e w2 ⟨rfl, hb⟩
  have BK := blk_after hb
  have z2 : w2.cell? ⟨w.heap.size, 2, none⟩ = some (.string q) := (blk_cell BK 2).trans rfl
  have HB2 := Aside0.mk (below_step HB1.out hb)
  clear hb BK HB1 HP
  go_wp2_with fail
  refine (HA.out _).mono ?_
  rintro e w3 ⟨rfl, t, rfl⟩
  have HB3 := Aside0.mk (bytes_below HB2.out HB2.out.size 5 t)
  clear HA HB2 z2
  obtain ⟨w3, ew⟩ : ∃ w3, Lib.bytesWorld w2 5 t = w3 := ⟨_, rfl⟩
  rw [ew] at HB3 ⊢
  clear ew
  go_wp2_with fail
  refine (HN.out _ (hg.below HB3.out)).mono ?_
  rintro e w4 ⟨rfl, hb⟩
  have HB4 := Aside0.mk (below_step HB3.out hb)
  clear hb HB3 HN
  go_wp2
  refine bodyPost_ret (results_tmp4 rfl _ _ _) rfl ?_
  exact ⟨rfl, HB4.out⟩
end Go.Proofs.YtbfmjbkhnbpbgaaGreatDoor.H
