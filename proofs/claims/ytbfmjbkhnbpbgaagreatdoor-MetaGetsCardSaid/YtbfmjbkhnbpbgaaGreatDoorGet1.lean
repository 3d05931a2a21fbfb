/- The contract of tankard/meta.Get$1: what a closure reads of a reader, and lays into the variable that it captured. -/
import Derived.Test.YtbfmjbkhnbpbgaaGreatDoorOpen
import Derived.Test.YtbfmjbkhnbpbgaaGreatDoorMetaPut
set_option linter.unusedVariables false
set_option linter.unusedSimpArgs false
namespace Go.Proofs.YtbfmjbkhnbpbgaaGreatDoor.H
open Go.RowKit Go.Proofs.YtbfmjbkhnbpbgaaGreatDoorW.PrintWords Go.Proofs.YtbfmjbkhnbpbgaaGreatDoorW.PrintLast Go.Proofs.YtbfmjbkhnbpbgaaGreatDoorW.PrintMore
open Go.Proofs.YtbfmjbkhnbpbgaaGreatDoor.PF Go.Proofs.YtbfmjbkhnbpbgaaGreatDoor.Pl
/-- What is read of bytes: the words one by one. -/
structure get1Reads (l : List Int) (v0 v1 v2 v3 v4 v5 : Nat) (i : Nat) (b : Int) : Prop where
  of : ∃ i1 i2 i3 i4 i5 : Nat, ∃ b1 b2 b3 b4 b5 : Int,
    (v0 = wordV l 0 8 (-1) ∧ i1 = wordI l 0 8 (-1) ∧ b1 = wordB l 0 8 (-1)) ∧ (v1 = wordV l i1 8 b1 ∧ i2 = wordI l i1 8 b1 ∧ b2 = wordB l i1 8 b1) ∧ (v2 = wordV l i2 8 b2 ∧ i3 = wordI l i2 8 b2 ∧ b3 = wordB l i2 8 b2) ∧ (v3 = wordV l i3 1 b3 ∧ i4 = wordI l i3 1 b3 ∧ b4 = wordB l i3 1 b3) ∧ (v4 = wordV l i4 2 b4 ∧ i5 = wordI l i4 2 b4 ∧ b5 = wordB l i4 2 b4) ∧ (v5 = wordV l i5 4 b5 ∧ i = wordI l i5 4 b5 ∧ b = wordB l i5 4 b5)
/-- All below g as it was, but M. -/
def KeepM (M g : Nat) (w0 w : World) : Prop := Below M w0 w ∧ ∀ k, k < g → k ≠ M → w.heap[k]? = w0.heap[k]?
theorem KeepM.refl (M g : Nat) (w : World) : KeepM M g w w := ⟨Below.refl _ _, fun _ _ _ => rfl⟩
theorem KeepM.step {M g : Nat} {w0 w w' : World} (h : KeepM M g w0 w) (k : Below g w w') (hMg : M < g) : KeepM M g w0 w' := ⟨h.1.trans (k.mono (Nat.le_of_lt hMg)), fun j hj hne => (k.block j hj).trans (h.2 j hj hne)⟩
theorem KeepM.set_ {M g : Nat} {w0 w : World} (h : KeepM M g w0 w) (j : Nat) (u : Value) : KeepM M g w0 (w.setCell ⟨M, j, none⟩ u) := ⟨h.1.setCell (Nat.le_refl _) u, fun k hk hne => (Below.heap_setCell _ _ _ _ (by exact hne)).trans (h.2 k hk hne)⟩
theorem rd_far {W : World} {g M : Nat} {A : Option Addr} {c n : Nat} {i b : Int} (h : Rd W g A c n i b) (hne : g ≠ M) (j : Nat) (u : Value) : Rd (W.setCell ⟨M, j, none⟩ u) g A c n i b := blk_far h hne u
set_option maxHeartbeats 800000 in
set_option maxRecDepth 100000 in
theorem get1_reads (w0 w : World) (g M : Nat) (A : Option Addr) (c : Nat) (l : List Int) (hB : KeepM M g w0 w) (hC : ∀ W, KeepM M g w0 W → Kd.C (Kd.int .u8) W A l.length l) (hby : Bytes l) (hMg : M < g)
    (hr : Rd w g A c l.length 0 (-1)) (hM : w.heap[M]? = some (.cells #[.int .u64 0, .int .i64 0, .int .i64 0, .int .i64 0, .int .i64 0, .int .i64 0] 26 (0, 0))) (hc : l.length ≤ c) (hn : l.length ≤ 140737488355328) :
    Calls Tryz.prog 14 #[.pointer (some ⟨g, 0, none⟩), .pointer (some ⟨M, 0, none⟩)] w fun e w' => ∃ (v0 v1 v2 v3 v4 v5 i : Nat) (b : Int), get1Reads l v0 v1 v2 v3 v4 v5 i b ∧ i ≤ l.length ∧ e = .returned (.bool (mayB (v0 : Nat) (wrap64 (v3 : Nat)) (wrap64 (v1 : Nat)) (wrap64 (v2 : Nat)) (wrap64 (v4 : Nat)) (wrap64 (v5 : Nat)))) ∧ Rd w' g A c l.length i b ∧ w'.heap[M]? = some (.cells #[.int .u64 (v0 : Nat), .int .i64 (wrap64 (v3 : Nat)), .int .i64 (wrap64 (v1 : Nat)), .int .i64 (wrap64 (v2 : Nat)), .int .i64 (wrap64 (v4 : Nat)), .int .i64 (wrap64 (v5 : Nat))] 26 (0, 0)) ∧ KeepM M g w0 w' := by
  have hne : g ≠ M := by omega
  have HC := Aside0.mk hC
  have R0 := Aside0.mk hr
  have M0 := Aside0.mk hM
  have B0 := Aside0.mk hB
  have hi0 : 0 ≤ l.length := Nat.zero_le _
  have hu := Tryz.underlying26
  clear hC hr hM hB
  go_enter Tryz.func14, Tryz.ntmps14
  go_wp2_with fail
  refine Calls.mono (rd_Word g _ g A c 0 8 l (-1) ?hr0 ?hC0 hby (Nat.le_refl _) hi0 hc hn (by omega)) ?k0
  case hr0 => exact R0.out
  case hC0 => exact fun W h => HC.out _ (B0.out.step h hMg)
  rintro e w1 ⟨rfl, hr, hk⟩
  have hi1 : wordI l 0 8 (-1) ≤ l.length := wordI_le hi0
  have HV1 := Aside0.mk (show wordV l 0 8 (-1) < 256 ^ 8 from wordV_lt hby)
  obtain ⟨v0, ev⟩ : ∃ v, v = wordV l 0 8 (-1) := ⟨_, rfl⟩
  obtain ⟨i1, ei⟩ : ∃ v, v = wordI l 0 8 (-1) := ⟨_, rfl⟩
  obtain ⟨b1, eb⟩ : ∃ v, v = wordB l 0 8 (-1) := ⟨_, rfl⟩
  rw [← ev] at HV1
  rw [← ei] at hi1
  rw [← ei, ← eb] at hr
  rw [← ev]
  have E0 := Aside0.mk (And.intro ev (And.intro ei eb))
  have hM := hk.2.blk M0.out (fun e => hne e.symm) (by simp)
  have hf := blk_frozen hM 0
  have hz : w1.cell? ⟨M, 0, none⟩ = some (.int .u64 0) := (blk_cell hM 0).trans rfl
  have R1 := Aside0.mk (rd_far hr hne 0 (.int .u64 (v0 : Nat)))
  have M1 := Aside0.mk (show (w1.setCell ⟨M, 0, none⟩ (.int .u64 (v0 : Nat))).heap[M]? = some (.cells #[.int .u64 (v0 : Nat), .int .i64 0, .int .i64 0, .int .i64 0, .int .i64 0, .int .i64 0] 26 (0, 0)) from blk_set hM 0 _)
  have B1 := Aside0.mk ((B0.out.step hk.1 hMg).set_ 0 (.int .u64 (v0 : Nat)))
  clear ev ei eb hr hk hM
  go_wp2_with fail
  refine Calls.mono (rd_Word g _ g A c i1 8 l b1 ?hr1 ?hC1 hby (Nat.le_refl _) hi1 hc hn (by omega)) ?k1
  case hr1 => exact R1.out
  case hC1 => exact fun W h => HC.out _ (B1.out.step h hMg)
  rintro e w2 ⟨rfl, hr, hk⟩
  have hi2 : wordI l i1 8 b1 ≤ l.length := wordI_le hi1
  have HV2 := Aside0.mk (show wordV l i1 8 b1 < 256 ^ 8 from wordV_lt hby)
  obtain ⟨v1, ev⟩ : ∃ v, v = wordV l i1 8 b1 := ⟨_, rfl⟩
  obtain ⟨i2, ei⟩ : ∃ v, v = wordI l i1 8 b1 := ⟨_, rfl⟩
  obtain ⟨b2, eb⟩ : ∃ v, v = wordB l i1 8 b1 := ⟨_, rfl⟩
  rw [← ev] at HV2
  rw [← ei] at hi2
  rw [← ei, ← eb] at hr
  rw [← ev]
  have E1 := Aside0.mk (And.intro ev (And.intro ei eb))
  have hM := hk.2.blk M1.out (fun e => hne e.symm) (by simp)
  have hf := blk_frozen hM 2
  have hz : w2.cell? ⟨M, 2, none⟩ = some (.int .i64 0) := (blk_cell hM 2).trans rfl
  have R2 := Aside0.mk (rd_far hr hne 2 (.int .i64 (wrap64 (v1 : Nat))))
  have M2 := Aside0.mk (show (w2.setCell ⟨M, 2, none⟩ (.int .i64 (wrap64 (v1 : Nat)))).heap[M]? = some (.cells #[.int .u64 (v0 : Nat), .int .i64 0, .int .i64 (wrap64 (v1 : Nat)), .int .i64 0, .int .i64 0, .int .i64 0] 26 (0, 0)) from blk_set hM 2 _)
  have B2 := Aside0.mk ((B1.out.step hk.1 hMg).set_ 2 (.int .i64 (wrap64 (v1 : Nat))))
  clear ev ei eb hr hk hM
  go_wp2_with fail
  refine Calls.mono (rd_Word g _ g A c i2 8 l b2 ?hr2 ?hC2 hby (Nat.le_refl _) hi2 hc hn (by omega)) ?k2
  case hr2 => exact R2.out
  case hC2 => exact fun W h => HC.out _ (B2.out.step h hMg)
  rintro e w3 ⟨rfl, hr, hk⟩
  have hi3 : wordI l i2 8 b2 ≤ l.length := wordI_le hi2
  have HV3 := Aside0.mk (show wordV l i2 8 b2 < 256 ^ 8 from wordV_lt hby)
  obtain ⟨v2, ev⟩ : ∃ v, v = wordV l i2 8 b2 := ⟨_, rfl⟩
  obtain ⟨i3, ei⟩ : ∃ v, v = wordI l i2 8 b2 := ⟨_, rfl⟩
  obtain ⟨b3, eb⟩ : ∃ v, v = wordB l i2 8 b2 := ⟨_, rfl⟩
  rw [← ev] at HV3
  rw [← ei] at hi3
  rw [← ei, ← eb] at hr
  rw [← ev]
  have E2 := Aside0.mk (And.intro ev (And.intro ei eb))
  have hM := hk.2.blk M2.out (fun e => hne e.symm) (by simp)
  have hf := blk_frozen hM 3
  have hz : w3.cell? ⟨M, 3, none⟩ = some (.int .i64 0) := (blk_cell hM 3).trans rfl
  have R3 := Aside0.mk (rd_far hr hne 3 (.int .i64 (wrap64 (v2 : Nat))))
  have M3 := Aside0.mk (show (w3.setCell ⟨M, 3, none⟩ (.int .i64 (wrap64 (v2 : Nat)))).heap[M]? = some (.cells #[.int .u64 (v0 : Nat), .int .i64 0, .int .i64 (wrap64 (v1 : Nat)), .int .i64 (wrap64 (v2 : Nat)), .int .i64 0, .int .i64 0] 26 (0, 0)) from blk_set hM 3 _)
  have B3 := Aside0.mk ((B2.out.step hk.1 hMg).set_ 3 (.int .i64 (wrap64 (v2 : Nat))))
  clear ev ei eb hr hk hM
  go_wp2_with fail
  refine Calls.mono (rd_Word g _ g A c i3 1 l b3 ?hr3 ?hC3 hby (Nat.le_refl _) hi3 hc hn (by omega)) ?k3
  case hr3 => exact R3.out
  case hC3 => exact fun W h => HC.out _ (B3.out.step h hMg)
  rintro e w4 ⟨rfl, hr, hk⟩
  have hi4 : wordI l i3 1 b3 ≤ l.length := wordI_le hi3
  have HV4 := Aside0.mk (show wordV l i3 1 b3 < 256 ^ 1 from wordV_lt hby)
  obtain ⟨v3, ev⟩ : ∃ v, v = wordV l i3 1 b3 := ⟨_, rfl⟩
  obtain ⟨i4, ei⟩ : ∃ v, v = wordI l i3 1 b3 := ⟨_, rfl⟩
  obtain ⟨b4, eb⟩ : ∃ v, v = wordB l i3 1 b3 := ⟨_, rfl⟩
  rw [← ev] at HV4
  rw [← ei] at hi4
  rw [← ei, ← eb] at hr
  rw [← ev]
  have E3 := Aside0.mk (And.intro ev (And.intro ei eb))
  have hM := hk.2.blk M3.out (fun e => hne e.symm) (by simp)
  have hf := blk_frozen hM 1
  have hz : w4.cell? ⟨M, 1, none⟩ = some (.int .i64 0) := (blk_cell hM 1).trans rfl
  have R4 := Aside0.mk (rd_far hr hne 1 (.int .i64 (wrap64 (v3 : Nat))))
  have M4 := Aside0.mk (show (w4.setCell ⟨M, 1, none⟩ (.int .i64 (wrap64 (v3 : Nat)))).heap[M]? = some (.cells #[.int .u64 (v0 : Nat), .int .i64 (wrap64 (v3 : Nat)), .int .i64 (wrap64 (v1 : Nat)), .int .i64 (wrap64 (v2 : Nat)), .int .i64 0, .int .i64 0] 26 (0, 0)) from blk_set hM 1 _)
  have B4 := Aside0.mk ((B3.out.step hk.1 hMg).set_ 1 (.int .i64 (wrap64 (v3 : Nat))))
  clear ev ei eb hr hk hM
  go_wp2_with fail
  refine Calls.mono (rd_Word g _ g A c i4 2 l b4 ?hr4 ?hC4 hby (Nat.le_refl _) hi4 hc hn (by omega)) ?k4
  case hr4 => exact R4.out
  case hC4 => exact fun W h => HC.out _ (B4.out.step h hMg)
  rintro e w5 ⟨rfl, hr, hk⟩
  have hi5 : wordI l i4 2 b4 ≤ l.length := wordI_le hi4
  have HV5 := Aside0.mk (show wordV l i4 2 b4 < 256 ^ 2 from wordV_lt hby)
  obtain ⟨v4, ev⟩ : ∃ v, v = wordV l i4 2 b4 := ⟨_, rfl⟩
  obtain ⟨i5, ei⟩ : ∃ v, v = wordI l i4 2 b4 := ⟨_, rfl⟩
  obtain ⟨b5, eb⟩ : ∃ v, v = wordB l i4 2 b4 := ⟨_, rfl⟩
  rw [← ev] at HV5
  rw [← ei] at hi5
  rw [← ei, ← eb] at hr
  rw [← ev]
  have E4 := Aside0.mk (And.intro ev (And.intro ei eb))
  have hM := hk.2.blk M4.out (fun e => hne e.symm) (by simp)
  have hf := blk_frozen hM 4
  have hz : w5.cell? ⟨M, 4, none⟩ = some (.int .i64 0) := (blk_cell hM 4).trans rfl
  have R5 := Aside0.mk (rd_far hr hne 4 (.int .i64 (wrap64 (v4 : Nat))))
  have M5 := Aside0.mk (show (w5.setCell ⟨M, 4, none⟩ (.int .i64 (wrap64 (v4 : Nat)))).heap[M]? = some (.cells #[.int .u64 (v0 : Nat), .int .i64 (wrap64 (v3 : Nat)), .int .i64 (wrap64 (v1 : Nat)), .int .i64 (wrap64 (v2 : Nat)), .int .i64 (wrap64 (v4 : Nat)), .int .i64 0] 26 (0, 0)) from blk_set hM 4 _)
  have B5 := Aside0.mk ((B4.out.step hk.1 hMg).set_ 4 (.int .i64 (wrap64 (v4 : Nat))))
  clear ev ei eb hr hk hM
  go_wp2_with fail
  refine Calls.mono (rd_Word g _ g A c i5 4 l b5 ?hr5 ?hC5 hby (Nat.le_refl _) hi5 hc hn (by omega)) ?k5
  case hr5 => exact R5.out
  case hC5 => exact fun W h => HC.out _ (B5.out.step h hMg)
  rintro e w6 ⟨rfl, hr, hk⟩
  have hi6 : wordI l i5 4 b5 ≤ l.length := wordI_le hi5
  have HV6 := Aside0.mk (show wordV l i5 4 b5 < 256 ^ 4 from wordV_lt hby)
  obtain ⟨v5, ev⟩ : ∃ v, v = wordV l i5 4 b5 := ⟨_, rfl⟩
  obtain ⟨i6, ei⟩ : ∃ v, v = wordI l i5 4 b5 := ⟨_, rfl⟩
  obtain ⟨b6, eb⟩ : ∃ v, v = wordB l i5 4 b5 := ⟨_, rfl⟩
  rw [← ev] at HV6
  rw [← ei] at hi6
  rw [← ei, ← eb] at hr
  rw [← ev]
  have E5 := Aside0.mk (And.intro ev (And.intro ei eb))
  have hM := hk.2.blk M5.out (fun e => hne e.symm) (by simp)
  have hf := blk_frozen hM 5
  have hz : w6.cell? ⟨M, 5, none⟩ = some (.int .i64 0) := (blk_cell hM 5).trans rfl
  have R6 := Aside0.mk (rd_far hr hne 5 (.int .i64 (wrap64 (v5 : Nat))))
  have M6 := Aside0.mk (show (w6.setCell ⟨M, 5, none⟩ (.int .i64 (wrap64 (v5 : Nat)))).heap[M]? = some (.cells #[.int .u64 (v0 : Nat), .int .i64 (wrap64 (v3 : Nat)), .int .i64 (wrap64 (v1 : Nat)), .int .i64 (wrap64 (v2 : Nat)), .int .i64 (wrap64 (v4 : Nat)), .int .i64 (wrap64 (v5 : Nat))] 26 (0, 0)) from blk_set hM 5 _)
  have B6 := Aside0.mk ((B5.out.step hk.1 hMg).set_ 5 (.int .i64 (wrap64 (v5 : Nat))))
  clear ev ei eb hr hk hM
  have hT := Aside0.mk (meta_May_f (v0 : Nat) (wrap64 (v3 : Nat)) (wrap64 (v1 : Nat)) (wrap64 (v2 : Nat)) (wrap64 (v4 : Nat)) (wrap64 (v5 : Nat)))
  have z0 : (w6.setCell ⟨M, 5, none⟩ (.int .i64 (wrap64 (v5 : Nat)))).cell? ⟨M, 0, none⟩ = some (.int .u64 (v0 : Nat)) := (blk_cell M6.out 0).trans rfl
  have z1 : (w6.setCell ⟨M, 5, none⟩ (.int .i64 (wrap64 (v5 : Nat)))).cell? ⟨M, 1, none⟩ = some (.int .i64 (wrap64 (v3 : Nat))) := (blk_cell M6.out 1).trans rfl
  have z2 : (w6.setCell ⟨M, 5, none⟩ (.int .i64 (wrap64 (v5 : Nat)))).cell? ⟨M, 2, none⟩ = some (.int .i64 (wrap64 (v1 : Nat))) := (blk_cell M6.out 2).trans rfl
  have z3 : (w6.setCell ⟨M, 5, none⟩ (.int .i64 (wrap64 (v5 : Nat)))).cell? ⟨M, 3, none⟩ = some (.int .i64 (wrap64 (v2 : Nat))) := (blk_cell M6.out 3).trans rfl
  have z4 : (w6.setCell ⟨M, 5, none⟩ (.int .i64 (wrap64 (v5 : Nat)))).cell? ⟨M, 4, none⟩ = some (.int .i64 (wrap64 (v4 : Nat))) := (blk_cell M6.out 4).trans rfl
  have z5 : (w6.setCell ⟨M, 5, none⟩ (.int .i64 (wrap64 (v5 : Nat)))).cell? ⟨M, 5, none⟩ = some (.int .i64 (wrap64 (v5 : Nat))) := (blk_cell M6.out 5).trans rfl
  go_wp2_with fail
  refine (meta_May.calls (v0 : Nat) (wrap64 (v3 : Nat)) (wrap64 (v1 : Nat)) (wrap64 (v2 : Nat)) (wrap64 (v4 : Nat)) (wrap64 (v5 : Nat)) _ _ hT.out).mono ?_
  rintro e w' ⟨rfl, hb⟩
  have RL := Aside0.mk ((hb.block g (blk_lt R6.out)).trans R6.out)
  have ML := Aside0.mk ((hb.block M (blk_lt M6.out)).trans M6.out)
  have BL := Aside0.mk (B6.out.step (hb.mono (Nat.le_of_lt (blk_lt R6.out))) hMg)
  clear hb
  go_wp2
  go_ret
  exact ⟨v0, v1, v2, v3, v4, v5, i6, b6, ⟨i1, i2, i3, i4, i5, b1, b2, b3, b4, b5, E0.out, E1.out, E2.out, E3.out, E4.out, E5.out⟩, hi6, rfl, RL.out, ML.out, BL.out⟩
end Go.Proofs.YtbfmjbkhnbpbgaaGreatDoor.H
