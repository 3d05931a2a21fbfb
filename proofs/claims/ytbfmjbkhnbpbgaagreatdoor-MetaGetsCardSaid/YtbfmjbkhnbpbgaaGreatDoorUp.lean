/- The head of layer 13's statements answers true. -/
import Derived.Test.YtbfmjbkhnbpbgaaGreatDoorParsed
set_option linter.unusedVariables false
namespace Go.Proofs.YtbfmjbkhnbpbgaaGreatDoor.H
open Go.RowKit Go.Proofs.YtbfmjbkhnbpbgaaGreatDoorW.PrintWords Go.Proofs.YtbfmjbkhnbpbgaaGreatDoorW.PrintLast Go.Proofs.YtbfmjbkhnbpbgaaGreatDoorW.PrintMore
open Go.Proofs.YtbfmjbkhnbpbgaaGreatDoor.PF Go.Proofs.YtbfmjbkhnbpbgaaGreatDoor.Pl
theorem name255 : nameW 255 109 = [98, 47, 48, 48, 48, 48, 48, 48, 48, 48, 48, 48, 48, 48, 48, 48, 102, 102, 47, 109] := by decide
/-- '==', both errors of ONE integer type: as the numbers are. -/
theorem run_equalIn_iface_int {P : Program} (w : World) (d : Nat) {ti tn : TypeId} {ms : Array (String × TypeId)} {i : TypeInfo} {k : IntKind} (a b : Int)
    (hi : P.underlying ti = some (.interface ms)) (hn : P.underlying tn = some (.int k)) (hinfo : P.info? tn = some i) (hcomp : i.comparable = true) :
    (Op.equalIn (d + 2) ti (.iface tn (.int k a)) (.iface tn (.int k b))).run P w = .ok (a == b) w := by
  simp [Op.equalIn, run_underlying hi, run_underlying hn, typeInfo, hinfo, hcomp]
theorem run_eql_iface_int {P : Program} (w : World) {ti tn : TypeId} {ms : Array (String × TypeId)} {i : TypeInfo} {k : IntKind} (a b : Int)
    (hi : P.underlying ti = some (.interface ms)) (hn : P.underlying tn = some (.int k)) (hinfo : P.info? tn = some i) (hcomp : i.comparable = true) :
    (binOp .eql ti (.iface tn (.int k a)) (.iface tn (.int k b))).run P w = .ok (.bool (a == b)) w := by
  simp only [binOp]
  simp [Op.equal, Op.maxDepth, run_equalIn_iface_int w 9998 a b hi hn hinfo hcomp]
theorem codeInfo : ∃ i, Tryz.prog.info? 46 = some i ∧ i.comparable = true := by
  have h : (Tryz.prog.info? 46).map (·.comparable) = some true := by kernel_rfl
  obtain ⟨i, hi, hc⟩ := Option.map_eq_some_iff.1 h
  exact ⟨i, hi, hc⟩
/-- Two of api's errors, compared. -/
theorem eql_code (w : World) (a b : Int) : (binOp .eql 28 (.iface 46 (.int .i64 a)) (.iface 46 (.int .i64 b))).run Tryz.prog w = .ok (.bool (a == b)) w := by
  obtain ⟨i, hi, hc⟩ := codeInfo
  exact run_eql_iface_int w a b Tryz.underlying28 Tryz.underlying46 hi hc
set_option maxHeartbeats 1000000 in
set_option maxRecDepth 100000 in
theorem up_true (w : World) (hg : Gl w) : Calls Tryz.prog 4 #[] w fun e w' => e = .returned (.bool true) ∧ Below w.heap.size w w' := by
  have HP := Aside0.mk (parse_w_109 255 (by decide) w hg)
  have HN := Aside0.mk (fun W hW => name_w 255 109 0 (by decide) W hW (by decide))
  rw [name255] at HP HN
  have HM := Aside0.mk (fun W => meta_Put_no 0 0 0 0 0 0 W (by decide))
  have hE := fun W => eql_code W 1 1
  go_enter Tryz.func4, Tryz.ntmps4
  go_wp2_with fail
  refine HP.out.mono ?_
  rintro e w1 ⟨rfl, hb⟩
  have HB1 := Aside0.mk hb
  clear hb HP
  go_wp2_with fail
  refine (HM.out _).mono ?_
  rintro e w2 ⟨rfl, hb⟩
  have HB2 := Aside0.mk (below_step HB1.out hb)
  clear hb HM HB1
  go_wp2_with fail
  refine (HN.out _ (hg.below HB2.out)).mono ?_
  rintro e w3 ⟨rfl, hb⟩
  have HB3 := Aside0.mk (below_step HB2.out hb)
  clear hb HN HB2
  go_wp2
  go_ret
  exact ⟨rfl, HB3.out⟩
end Go.Proofs.YtbfmjbkhnbpbgaaGreatDoor.H
