/- The contract of meta.open with tankard/meta.Marked$1. -/
import Derived.Test.YtbfmjbkhnbpbgaaGreatDoorMarked1
import Derived.Test.YtbfmjbkhnbpbgaaGreatDoorMopen
set_option linter.unusedVariables false
set_option linter.unusedSimpArgs false
namespace Go.Proofs.YtbfmjbkhnbpbgaaGreatDoor.H
open Go.RowKit Go.Proofs.YtbfmjbkhnbpbgaaGreatDoorW.PrintWords Go.Proofs.YtbfmjbkhnbpbgaaGreatDoorW.PrintLast Go.Proofs.YtbfmjbkhnbpbgaaGreatDoorW.PrintMore
open Go.Proofs.YtbfmjbkhnbpbgaaGreatDoor.PF Go.Proofs.YtbfmjbkhnbpbgaaGreatDoor.Pl
set_option maxHeartbeats 800000 in
set_option maxRecDepth 100000 in
theorem open_mark1 (A0 : Option Addr) (c0 : Nat) (l0 l : List Int) (w : World) (M : Nat) (hr0 : Kd.C (Kd.int .u8) w A0 l0.length l0) (hc0 : l0.length ≤ c0) (hby : Bytes l) (hlen : l0.length ≤ 140737488355000) (hs : l0 = sealed l)
    (hM : w.heap[M]? = some (.cells #[.int .u64 0, .int .i64 0, .int .u64 0] 32 (0, 0))) :
    Calls Tryz.prog 13 #[.slice A0 l0.length c0, .func (.func 17) #[] #[.pointer (some ⟨M, 0, none⟩)]] w fun e w' => ∃ (v0 v1 v2 i : Nat) (b : Int), mark1Reads l v0 v1 v2 i b ∧ i ≤ l.length ∧ e = .returned (if fairB (v0 : Nat) (wrap64 (v1 : Nat)) (v2 : Nat) = true ∧ b < 0 ∧ l.length ≤ i then .nilIface else errV 2) ∧ w'.heap[M]? = some (.cells #[.int .u64 (v0 : Nat), .int .i64 (wrap64 (v1 : Nat)), .int .u64 (v2 : Nat)] 32 (0, 0)) ∧ Below M w w' := by
  have HO := Aside0.mk (crc_Open_ok A0 c0 l0 l w hr0 hc0 hby hlen hs)
  have hln : l.length ≤ 140737488355000 := by rw [hs, seal_length] at hlen; omega
  have hMlt : M < w.heap.size := blk_lt hM
  have M0 := Aside0.mk hM
  have hu := Tryz.underlying28
  clear hr0 hc0 hlen hs hM
  go_enter Tryz.func13, Tryz.ntmps13
  go_wp2_with fail
  refine HO.out.mono ?_
  rintro e w1 ⟨v, rfl, hm, hb⟩
  obtain ⟨A1, c1, rfl, hl1, hC1⟩ := Kd.R_reads hm
  have HM1 := Aside0.mk (Kd.R_bound hm)
  have B1 := Aside0.mk hb
  clear hC1 hm hb HO
  go_wp2_with fail
  refine (rd_Read 0 w1 A1 c1 l.length).mono ?_
  rintro e w2 ⟨g, rfl, hr, hg, hb⟩
  have R2 := Aside0.mk hr
  have hMg : M < g := by have := B1.out.size; omega
  have HC2 := Aside0.mk (show ∀ W, KeepM M g w2 W → Kd.C (Kd.int .u8) W A1 l.length l from fun W h => (Kd.R_reads' (Kd.R_step HM1.out (fun k hk hlt => (h.2 k (by omega) (by have := hk.2.1; omega)).trans (hb.block k hlt)))).2.2)
  have M2 := Aside0.mk ((hb.block M (by have := B1.out.size; omega)).trans ((B1.out.block M hMlt).trans M0.out))
  have B2 := Aside0.mk (below_step B1.out hb)
  clear hr hg hb HM1 M0 B1
  go_wp2_with fail
  refine (mark1_reads w2 w2 g M A1 c1 l (KeepM.refl _ _ _) HC2.out hby hMg R2.out M2.out hl1 (by omega)).mono ?_
  rintro e w3 ⟨v0, v1, v2, i, b, hrd, hi, rfl, hr, hm, hk⟩
  have HRD := Aside0.mk hrd
  have R3 := Aside0.mk hr
  have M3 := Aside0.mk hm
  have B3 := Aside0.mk ((B2.out.mono (Nat.le_of_lt hMlt)).trans hk.1)
  clear HC2 R2 M2 hrd hr hm hk B2
  obtain ⟨may, hmay⟩ : ∃ m, fairB (v0 : Nat) (wrap64 (v1 : Nat)) (v2 : Nat) = m := ⟨_, rfl⟩
  rw [hmay]
  have HMAY := Aside0.mk hmay
  clear hmay
  cases may
  case false =>
    go_wp2
    go_ret
    exact ⟨v0, v1, v2, i, b, HRD.out, hi, by rw [HMAY.out, if_neg (by simp)]; rfl, M3.out, B3.out⟩
  case true =>
    go_wp2_with fail
    refine (rd_Bad 0 w3 g A1 c1 l.length i b R3.out).mono ?_
    rintro e w4 ⟨rfl, rfl⟩
    by_cases hb0 : b < 0
    · have hb1 : decide (0 ≤ b) = false := decide_eq_false (by omega)
      have hL : wrap64 ((l.length : Int) - (i : Int)) = ((l.length - i : Nat) : Int) := by unfold wrap64; omega
      have HL := Aside0.mk (rd_Left w4 g A1 c1 l.length i b R3.out)
      rw [hL] at HL
      clear hL
      go_wp2_with fail
      refine HL.out.mono ?_
      rintro e w5 ⟨rfl, hb⟩
      have ML := Aside0.mk ((hb.block M (blk_lt M3.out)).trans M3.out)
      have BL := Aside0.mk (B3.out.trans (hb.mono (Nat.le_of_lt (blk_lt M3.out))))
      clear hb HL R3
      by_cases hli : l.length ≤ i
      · have hd : decide ((0 : Int) < ((l.length - i : Nat) : Int)) = false := decide_eq_false (by omega)
        go_wp2
        go_ret
        exact ⟨v0, v1, v2, i, b, HRD.out, hi, by rw [if_pos ⟨HMAY.out, hb0, hli⟩]; rfl, ML.out, BL.out⟩
      · have hd : decide ((0 : Int) < ((l.length - i : Nat) : Int)) = true := decide_eq_true (by omega)
        go_wp2
        go_ret
        exact ⟨v0, v1, v2, i, b, HRD.out, hi, by rw [if_neg (fun h => hli h.2.2)]; rfl, ML.out, BL.out⟩
    · have hb1 : decide (0 ≤ b) = true := decide_eq_true (by omega)
      go_wp2
      go_ret
      exact ⟨v0, v1, v2, i, b, HRD.out, hi, by rw [if_neg (fun h => absurd h.2.1 (by omega))]; rfl, M3.out, B3.out⟩
end Go.Proofs.YtbfmjbkhnbpbgaaGreatDoor.H
