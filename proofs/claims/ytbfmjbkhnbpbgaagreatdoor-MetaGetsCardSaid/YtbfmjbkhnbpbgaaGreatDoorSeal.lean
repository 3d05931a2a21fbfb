/- Contracts of crc.Sum and crc.Seal. -/
import Derived.Test.YtbfmjbkhnbpbgaaGreatDoorWord
set_option linter.unusedVariables false
namespace Go.Proofs.YtbfmjbkhnbpbgaaGreatDoor.H
open Go.RowKit Go.Proofs.YtbfmjbkhnbpbgaaGreatDoorW.PrintWords Go.Proofs.YtbfmjbkhnbpbgaaGreatDoorW.PrintLast Go.Proofs.YtbfmjbkhnbpbgaaGreatDoorW.PrintMore
open Go.Proofs.YtbfmjbkhnbpbgaaGreatDoor.PF Go.Proofs.YtbfmjbkhnbpbgaaGreatDoor.Pl
/-- A list of bytes of the call's own. -/
abbrev MadeB (w w' : World) (v : Value) (l : List Int) : Prop := Kd.R (Kd.int .u8) 5 w' w.heap.size (fun _ => True) v l
set_option maxHeartbeats 400000 in
set_option maxRecDepth 100000 in
theorem crc_Sum (A0 : Option Addr) (c0 : Nat) (l0 : List Int) (w : World) (hr0 : Kd.C (Kd.int .u8) w A0 l0.length l0) (hby : Bytes l0) :
    Calls Tryz.prog 61 #[.slice A0 l0.length c0] w fun e w' => e = .returned (.int .u32 (sumOf l0)) ∧ Below w.heap.size w w' := by
  go_enter Tryz.func61, Tryz.ntmps61
  go_wp2_with (go_at_call 76; go_must (refine (crc_On A0 c0 l0 _ hr0 hby).mono ?_); rintro e w' ⟨rfl, hb⟩; have HB := Aside0.mk hb; clear hb)
  go_ret
  exact ⟨rfl, HB.out⟩
theorem word_Put' (A0 : Option Addr) (c0 : Nat) (l0 : List Int) (a1 a2 : Int) (wd n : Nat) (w : World) (hr0 : Kd.C (Kd.int .u8) w A0 l0.length l0) (hc0 : l0.length ≤ c0) (e1 : a1 = wd) (e2 : a2 = n) (hw : wd = 1 ∨ wd = 2 ∨ wd = 4 ∨ wd = 8) (hn : n < 256 ^ wd) (hlen : l0.length ≤ 140737488355000) :
    Calls Tryz.prog 43 #[.slice A0 l0.length c0, .int .i64 a1, .int .u64 a2] w fun e w' => ∃ v, e = .returned (.tuple #[v, .nilIface]) ∧ MadeB w w' v (l0 ++ beN wd n) ∧ Below w.heap.size w w' := by
  subst e1 e2
  exact word_Put.calls 10 A0 c0 l0 _ _ _ none w hr0 hc0 (put_f wd n 10 l0 hw hn (by omega) hlen)
set_option maxHeartbeats 400000 in
set_option maxRecDepth 100000 in
theorem crc_Seal (A0 : Option Addr) (c0 : Nat) (l0 : List Int) (w : World) (hr0 : Kd.C (Kd.int .u8) w A0 l0.length l0) (hc0 : l0.length ≤ c0) (hby : Bytes l0) (hlen : l0.length ≤ 140737488355000) :
    Calls Tryz.prog 44 #[.slice A0 l0.length c0] w fun e w' => ∃ v, e = .returned v ∧ MadeB w w' v (sealed l0) ∧ Below w.heap.size w w' := by
  have HR := Aside0.mk hr0
  clear hr0
  have hs := sumN_lt (l0.map Int.toNat)
  have hq : Aside0 (sumOf l0 = ((sumN (l0.map Int.toNat) : Nat) : Int)) := ⟨rfl⟩
  have hb0 : 0 ≤ sumOf l0 := by rw [hq.out]; omega
  have hb1 : sumOf l0 < 4294967296 := by rw [hq.out]; omega
  clear hs
  go_enter Tryz.func44, Tryz.ntmps44
  go_wp2_with (go_at_call 61; go_must (refine (crc_Sum A0 c0 l0 _ HR.out hby).mono ?_); rintro e w' ⟨rfl, hb⟩; have HB := Aside0.mk hb; clear hb)
  refine (word_Put' A0 c0 l0 _ _ 4 (sumN (l0.map Int.toNat)) _ (Kd.C_below HR.out HB.out) hc0 rfl hq.out (by omega) (sumN_lt _) hlen).mono ?_
  rintro e w' ⟨v, rfl, hm, hb⟩
  have HB' := Aside0.mk (below_step HB.out hb)
  have HM := Aside0.mk (Kd.R_lower hm HB.out.size)
  clear hm hb
  have hu := Tryz.underlying28
  go_wp2
  go_ret
  exact ⟨_, rfl, HM.out, HB'.out⟩
end Go.Proofs.YtbfmjbkhnbpbgaaGreatDoor.H
