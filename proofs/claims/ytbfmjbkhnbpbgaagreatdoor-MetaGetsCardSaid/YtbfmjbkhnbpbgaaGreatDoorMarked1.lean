/- The contract of tankard/meta.Marked$1: what a closure reads of a reader, and lays into the variable that it captured. -/
import Derived.Test.YtbfmjbkhnbpbgaaGreatDoorGet1
import Derived.Test.YtbfmjbkhnbpbgaaGreatDoorMetaPut
set_option linter.unusedVariables false
set_option linter.unusedSimpArgs false
namespace Go.Proofs.YtbfmjbkhnbpbgaaGreatDoor.H
open Go.RowKit Go.Proofs.YtbfmjbkhnbpbgaaGreatDoorW.PrintWords Go.Proofs.YtbfmjbkhnbpbgaaGreatDoorW.PrintLast Go.Proofs.YtbfmjbkhnbpbgaaGreatDoorW.PrintMore
open Go.Proofs.YtbfmjbkhnbpbgaaGreatDoor.PF Go.Proofs.YtbfmjbkhnbpbgaaGreatDoor.Pl
/-- What is read of bytes: the words one by one. -/
structure mark1Reads (l : List Int) (v0 v1 v2 : Nat) (i : Nat) (b : Int) : Prop where
  of : ∃ i1 i2 : Nat, ∃ b1 b2 : Int,
    (v0 = wordV l 0 8 (-1) ∧ i1 = wordI l 0 8 (-1) ∧ b1 = wordB l 0 8 (-1)) ∧ (v1 = wordV l i1 8 b1 ∧ i2 = wordI l i1 8 b1 ∧ b2 = wordB l i1 8 b1) ∧ (v2 = wordV l i2 8 b2 ∧ i = wordI l i2 8 b2 ∧ b = wordB l i2 8 b2)
set_option maxHeartbeats 800000 in
set_option maxRecDepth 100000 in
theorem mark1_reads (w0 w : World) (g M : Nat) (A : Option Addr) (c : Nat) (l : List Int) (hB : KeepM M g w0 w) (hC : ∀ W, KeepM M g w0 W → Kd.C (Kd.int .u8) W A l.length l) (hby : Bytes l) (hMg : M < g)
    (hr : Rd w g A c l.length 0 (-1)) (hM : w.heap[M]? = some (.cells #[.int .u64 0, .int .i64 0, .int .u64 0] 32 (0, 0))) (hc : l.length ≤ c) (hn : l.length ≤ 140737488355328) :
    Calls Tryz.prog 17 #[.pointer (some ⟨g, 0, none⟩), .pointer (some ⟨M, 0, none⟩)] w fun e w' => ∃ (v0 v1 v2 i : Nat) (b : Int), mark1Reads l v0 v1 v2 i b ∧ i ≤ l.length ∧ e = .returned (.bool (fairB (v0 : Nat) (wrap64 (v1 : Nat)) (v2 : Nat))) ∧ Rd w' g A c l.length i b ∧ w'.heap[M]? = some (.cells #[.int .u64 (v0 : Nat), .int .i64 (wrap64 (v1 : Nat)), .int .u64 (v2 : Nat)] 32 (0, 0)) ∧ KeepM M g w0 w' := by
  have hne : g ≠ M := by omega
  have HC := Aside0.mk hC
  have R0 := Aside0.mk hr
  have M0 := Aside0.mk hM
  have B0 := Aside0.mk hB
  have hi0 : 0 ≤ l.length := Nat.zero_le _
  have hu := Tryz.underlying32
  clear hC hr hM hB
  go_enter Tryz.func17, Tryz.ntmps17
  go_wp2_with fail
  refine Calls.mono (rd_Word g _ g A c 0 8 l (-1) ?hr0 ?hC0 hby (Nat.le_refl _) hi0 hc hn (by omega)) ?k0
  case hr0 => exact R0.out
  case hC0 => exact fun W h => HC.out _ (B0.out.step h hMg)
  rintro e w1 ⟨rfl, hr, hk⟩
  have hi1 : wordI l 0 8 (-1) ≤ l.length := wordI_le hi0
  have HV1 := Aside0.mk (show wordV l 0 8 (-1) < 256 ^ 8 from wordV_lt hby)
  obtain ⟨v0, ev⟩ : ∃ v, v = wordV l 0 8 (-1) := ⟨_, rfl⟩
  obtain ⟨i1, ei⟩ : ∃ v, v = wordI l 0 8 (-1) := ⟨_, rfl⟩
  obtain ⟨b1, eb⟩ : ∃ v, v = wordB l 0 8 (-1) := ⟨_, rfl⟩
  rw [← ev] at HV1
  rw [← ei] at hi1
  rw [← ei, ← eb] at hr
  rw [← ev]
  have E0 := Aside0.mk (And.intro ev (And.intro ei eb))
  have hM := hk.2.blk M0.out (fun e => hne e.symm) (by simp)
  have hf := blk_frozen hM 0
  have hz : w1.cell? ⟨M, 0, none⟩ = some (.int .u64 0) := (blk_cell hM 0).trans rfl
  have R1 := Aside0.mk (rd_far hr hne 0 (.int .u64 (v0 : Nat)))
  have M1 := Aside0.mk (show (w1.setCell ⟨M, 0, none⟩ (.int .u64 (v0 : Nat))).heap[M]? = some (.cells #[.int .u64 (v0 : Nat), .int .i64 0, .int .u64 0] 32 (0, 0)) from blk_set hM 0 _)
  have B1 := Aside0.mk ((B0.out.step hk.1 hMg).set_ 0 (.int .u64 (v0 : Nat)))
  clear ev ei eb hr hk hM
  go_wp2_with fail
  refine Calls.mono (rd_Word g _ g A c i1 8 l b1 ?hr1 ?hC1 hby (Nat.le_refl _) hi1 hc hn (by omega)) ?k1
  case hr1 => exact R1.out
  case hC1 => exact fun W h => HC.out _ (B1.out.step h hMg)
  rintro e w2 ⟨rfl, hr, hk⟩
  have hi2 : wordI l i1 8 b1 ≤ l.length := wordI_le hi1
  have HV2 := Aside0.mk (show wordV l i1 8 b1 < 256 ^ 8 from wordV_lt hby)
  obtain ⟨v1, ev⟩ : ∃ v, v = wordV l i1 8 b1 := ⟨_, rfl⟩
  obtain ⟨i2, ei⟩ : ∃ v, v = wordI l i1 8 b1 := ⟨_, rfl⟩
  obtain ⟨b2, eb⟩ : ∃ v, v = wordB l i1 8 b1 := ⟨_, rfl⟩
  rw [← ev] at HV2
  rw [← ei] at hi2
  rw [← ei, ← eb] at hr
  rw [← ev]
  have E1 := Aside0.mk (And.intro ev (And.intro ei eb))
  have hM := hk.2.blk M1.out (fun e => hne e.symm) (by simp)
  have hf := blk_frozen hM 1
  have hz : w2.cell? ⟨M, 1, none⟩ = some (.int .i64 0) := (blk_cell hM 1).trans rfl
  have R2 := Aside0.mk (rd_far hr hne 1 (.int .i64 (wrap64 (v1 : Nat))))
  have M2 := Aside0.mk (show (w2.setCell ⟨M, 1, none⟩ (.int .i64 (wrap64 (v1 : Nat)))).heap[M]? = some (.cells #[.int .u64 (v0 : Nat), .int .i64 (wrap64 (v1 : Nat)), .int .u64 0] 32 (0, 0)) from blk_set hM 1 _)
  have B2 := Aside0.mk ((B1.out.step hk.1 hMg).set_ 1 (.int .i64 (wrap64 (v1 : Nat))))
  clear ev ei eb hr hk hM
  go_wp2_with fail
  refine Calls.mono (rd_Word g _ g A c i2 8 l b2 ?hr2 ?hC2 hby (Nat.le_refl _) hi2 hc hn (by omega)) ?k2
  case hr2 => exact R2.out
  case hC2 => exact fun W h => HC.out _ (B2.out.step h hMg)
  rintro e w3 ⟨rfl, hr, hk⟩
  have hi3 : wordI l i2 8 b2 ≤ l.length := wordI_le hi2
  have HV3 := Aside0.mk (show wordV l i2 8 b2 < 256 ^ 8 from wordV_lt hby)
  obtain ⟨v2, ev⟩ : ∃ v, v = wordV l i2 8 b2 := ⟨_, rfl⟩
  obtain ⟨i3, ei⟩ : ∃ v, v = wordI l i2 8 b2 := ⟨_, rfl⟩
  obtain ⟨b3, eb⟩ : ∃ v, v = wordB l i2 8 b2 := ⟨_, rfl⟩
  rw [← ev] at HV3
  rw [← ei] at hi3
  rw [← ei, ← eb] at hr
  rw [← ev]
  have E2 := Aside0.mk (And.intro ev (And.intro ei eb))
  have hM := hk.2.blk M2.out (fun e => hne e.symm) (by simp)
  have hf := blk_frozen hM 2
  have hz : w3.cell? ⟨M, 2, none⟩ = some (.int .u64 0) := (blk_cell hM 2).trans rfl
  have R3 := Aside0.mk (rd_far hr hne 2 (.int .u64 (v2 : Nat)))
  have M3 := Aside0.mk (show (w3.setCell ⟨M, 2, none⟩ (.int .u64 (v2 : Nat))).heap[M]? = some (.cells #[.int .u64 (v0 : Nat), .int .i64 (wrap64 (v1 : Nat)), .int .u64 (v2 : Nat)] 32 (0, 0)) from blk_set hM 2 _)
  have B3 := Aside0.mk ((B2.out.step hk.1 hMg).set_ 2 (.int .u64 (v2 : Nat)))
  clear ev ei eb hr hk hM
  have hT := Aside0.mk (meta_Fair_f (v0 : Nat) (wrap64 (v1 : Nat)) (v2 : Nat))
  have z0 : (w3.setCell ⟨M, 2, none⟩ (.int .u64 (v2 : Nat))).cell? ⟨M, 0, none⟩ = some (.int .u64 (v0 : Nat)) := (blk_cell M3.out 0).trans rfl
  have z1 : (w3.setCell ⟨M, 2, none⟩ (.int .u64 (v2 : Nat))).cell? ⟨M, 1, none⟩ = some (.int .i64 (wrap64 (v1 : Nat))) := (blk_cell M3.out 1).trans rfl
  have z2 : (w3.setCell ⟨M, 2, none⟩ (.int .u64 (v2 : Nat))).cell? ⟨M, 2, none⟩ = some (.int .u64 (v2 : Nat)) := (blk_cell M3.out 2).trans rfl
  go_wp2_with fail
  refine (meta_Fair.calls (v0 : Nat) (wrap64 (v1 : Nat)) (v2 : Nat) _ _ hT.out).mono ?_
  rintro e w' ⟨rfl, hb⟩
  have RL := Aside0.mk ((hb.block g (blk_lt R3.out)).trans R3.out)
  have ML := Aside0.mk ((hb.block M (blk_lt M3.out)).trans M3.out)
  have BL := Aside0.mk (B3.out.step (hb.mono (Nat.le_of_lt (blk_lt R3.out))) hMg)
  clear hb
  go_wp2
  go_ret
  exact ⟨v0, v1, v2, i3, b3, ⟨i1, i2, b1, b2, E0.out, E1.out, E2.out⟩, hi3, rfl, RL.out, ML.out, BL.out⟩
end Go.Proofs.YtbfmjbkhnbpbgaaGreatDoor.H
