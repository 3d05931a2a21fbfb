/- The contract of tankard/tankardref11.Told. -/
import Derived.Test.YtbfmjbkhnbpbgaaGreatDoorRefOpen
set_option linter.unusedVariables false
set_option linter.unusedSimpArgs false
namespace Go.Proofs.YtbfmjbkhnbpbgaaGreatDoor.H
open Go.RowKit Go.Proofs.YtbfmjbkhnbpbgaaGreatDoorW.PrintWords Go.Proofs.YtbfmjbkhnbpbgaaGreatDoorW.PrintLast Go.Proofs.YtbfmjbkhnbpbgaaGreatDoorW.PrintMore
open Go.Proofs.YtbfmjbkhnbpbgaaGreatDoor.PF Go.Proofs.YtbfmjbkhnbpbgaaGreatDoor.Pl
set_option maxHeartbeats 800000 in
set_option maxRecDepth 100000 in
theorem told_no (A0 : Option Addr) (c0 : Nat) (l : List Int) (w : World) (h : l.length ≠ 31) (hl : l.length ≤ 140737488355328) :
    Calls Tryz.prog 20 #[.slice A0 l.length c0] w fun e w' => e = .returned (.tuple #[.agg #[.int .u64 0, .int .i64 0, .int .i64 0, .int .i64 0, .int .i64 0, .int .i64 0], .bool false]) ∧ Below w.heap.size w w' := by
  have hu2 := Tryz.underlying26
  obtain ⟨W0, hW0⟩ : ∃ W0, w.alloc (.cells #[.int .u64 0, .int .i64 0, .int .i64 0, .int .i64 0, .int .i64 0, .int .i64 0] 26) = W0 := ⟨_, rfl⟩
  have B0 := Aside0.mk (show Below w.heap.size w W0 by rw [← hW0]; exact below_alloc (Below.refl _ _) _)
  have K0 := Aside0.mk (show W0.heap[w.heap.size]? = some (.cells #[.int .u64 0, .int .i64 0, .int .i64 0, .int .i64 0, .int .i64 0, .int .i64 0] 26 (0, 0)) by rw [← hW0]; exact heap_alloc_new w _)
  have hd : ((l.length : Int) == 31) = false := beq_eq_false_iff_ne.mpr (by omega)
  have hd2 : ((l.length : Int) != 31) = true := bne_iff_ne.mpr (by omega)
  have y0 : W0.cell? ⟨w.heap.size, 0, none⟩ = some (.int .u64 0) := (blk_cell K0.out 0).trans rfl
  have f0 := blk_frozen K0.out 0
  have y1 : W0.cell? ⟨w.heap.size, 1, none⟩ = some (.int .i64 0) := (blk_cell K0.out 1).trans rfl
  have f1 := blk_frozen K0.out 1
  have y2 : W0.cell? ⟨w.heap.size, 2, none⟩ = some (.int .i64 0) := (blk_cell K0.out 2).trans rfl
  have f2 := blk_frozen K0.out 2
  have y3 : W0.cell? ⟨w.heap.size, 3, none⟩ = some (.int .i64 0) := (blk_cell K0.out 3).trans rfl
  have f3 := blk_frozen K0.out 3
  have y4 : W0.cell? ⟨w.heap.size, 4, none⟩ = some (.int .i64 0) := (blk_cell K0.out 4).trans rfl
  have f4 := blk_frozen K0.out 4
  have y5 : W0.cell? ⟨w.heap.size, 5, none⟩ = some (.int .i64 0) := (blk_cell K0.out 5).trans rfl
  have f5 := blk_frozen K0.out 5
  subst hW0
  go_enter Tryz.func20, Tryz.ntmps20
  go_wp2
  (try simp only [Exit.inBlock, Exit.then])
  refine bodyPost_ret (results_ct rfl _ _ w.heap.size 26 #[.int .u64 0, .int .i64 0, .int .i64 0, .int .i64 0, .int .i64 0, .int .i64 0] (0, 0) _ rfl (by first | exact K0.out | exact set6 (.int .u64 0) (.int .i64 0) (.int .i64 0) (.int .i64 0) (.int .i64 0) (.int .i64 0) K0.out) hu2 rfl (by kernel_rfl)) rfl ?_
  exact ⟨rfl, by first | exact B0.out | exact below6 (.int .u64 0) (.int .i64 0) (.int .i64 0) (.int .i64 0) (.int .i64 0) (.int .i64 0) B0.out (Nat.le_refl _)⟩
set_option maxHeartbeats 1600000 in
set_option maxRecDepth 100000 in
theorem told_yes (A0 : Option Addr) (c0 : Nat) (l : List Int) (w : World) (hr0 : Kd.C (Kd.int .u8) w A0 l.length l) (hby : Bytes l) (h : l.length = 31) :
    Calls Tryz.prog 20 #[.slice A0 l.length c0] w fun e w' => ∃ v0 v1 v2 v3 v4 v5 : Nat, v0 = deN ((l.drop 0).take 8) ∧ v1 = deN ((l.drop 8).take 8) ∧ v2 = deN ((l.drop 16).take 8) ∧ v3 = deN ((l.drop 24).take 1) ∧ v4 = deN ((l.drop 25).take 2) ∧ v5 = deN ((l.drop 27).take 4) ∧ e = .returned (.tuple #[.agg #[.int .u64 (v0 : Nat), .int .i64 (wrap64 (v3 : Nat)), .int .i64 (wrap64 (v1 : Nat)), .int .i64 (wrap64 (v2 : Nat)), .int .i64 (wrap64 (v4 : Nat)), .int .i64 (wrap64 (v5 : Nat))], .bool (mayB (v0 : Nat) (wrap64 (v3 : Nat)) (wrap64 (v1 : Nat)) (wrap64 (v2 : Nat)) (wrap64 (v4 : Nat)) (wrap64 (v5 : Nat)))]) ∧ Below w.heap.size w w' := by
  have hu2 := Tryz.underlying26
  obtain ⟨W0, hW0⟩ : ∃ W0, w.alloc (.cells #[.int .u64 0, .int .i64 0, .int .i64 0, .int .i64 0, .int .i64 0, .int .i64 0] 26) = W0 := ⟨_, rfl⟩
  have B0 := Aside0.mk (show Below w.heap.size w W0 by rw [← hW0]; exact below_alloc (Below.refl _ _) _)
  have K0 := Aside0.mk (show W0.heap[w.heap.size]? = some (.cells #[.int .u64 0, .int .i64 0, .int .i64 0, .int .i64 0, .int .i64 0, .int .i64 0] 26 (0, 0)) by rw [← hW0]; exact heap_alloc_new w _)
  have HR := Aside0.mk (Kd.C_below hr0 B0.out)
  have x0 := refW_f l hby 0 8 10 (by omega) (by omega) (by omega) (by omega)
  obtain ⟨v0, ev0⟩ : ∃ v, v = deN ((l.drop 0).take 8) := ⟨_, rfl⟩
  rw [← ev0] at x0
  (try rw [show ((0 + 8 : Nat) : Int) = 8 from rfl] at x0)
  (try rw [show ((0 : Nat) : Int) = 0 from rfl] at x0)
  (try rw [show ((8 : Nat) : Int) = 8 from rfl] at x0)
  have X0 := Aside0.mk (show tankardref01_Reader_Word.f 10 l 0 (-1) 8 = some (((v0 : Nat) : Int), 8, -1) from x0)
  clear x0
  have x0 := refW_f l hby 8 8 10 (by omega) (by omega) (by omega) (by omega)
  obtain ⟨v1, ev1⟩ : ∃ v, v = deN ((l.drop 8).take 8) := ⟨_, rfl⟩
  rw [← ev1] at x0
  (try rw [show ((8 + 8 : Nat) : Int) = 16 from rfl] at x0)
  (try rw [show ((8 : Nat) : Int) = 8 from rfl] at x0)
  (try rw [show ((8 : Nat) : Int) = 8 from rfl] at x0)
  have X1 := Aside0.mk (show tankardref01_Reader_Word.f 10 l 8 (-1) 8 = some (((v1 : Nat) : Int), 16, -1) from x0)
  clear x0
  have x0 := refW_f l hby 16 8 10 (by omega) (by omega) (by omega) (by omega)
  obtain ⟨v2, ev2⟩ : ∃ v, v = deN ((l.drop 16).take 8) := ⟨_, rfl⟩
  rw [← ev2] at x0
  (try rw [show ((16 + 8 : Nat) : Int) = 24 from rfl] at x0)
  (try rw [show ((16 : Nat) : Int) = 16 from rfl] at x0)
  (try rw [show ((8 : Nat) : Int) = 8 from rfl] at x0)
  have X2 := Aside0.mk (show tankardref01_Reader_Word.f 10 l 16 (-1) 8 = some (((v2 : Nat) : Int), 24, -1) from x0)
  clear x0
  have x0 := refW_f l hby 24 1 10 (by omega) (by omega) (by omega) (by omega)
  obtain ⟨v3, ev3⟩ : ∃ v, v = deN ((l.drop 24).take 1) := ⟨_, rfl⟩
  rw [← ev3] at x0
  (try rw [show ((24 + 1 : Nat) : Int) = 25 from rfl] at x0)
  (try rw [show ((24 : Nat) : Int) = 24 from rfl] at x0)
  (try rw [show ((1 : Nat) : Int) = 1 from rfl] at x0)
  have X3 := Aside0.mk (show tankardref01_Reader_Word.f 10 l 24 (-1) 1 = some (((v3 : Nat) : Int), 25, -1) from x0)
  clear x0
  have x0 := refW_f l hby 25 2 10 (by omega) (by omega) (by omega) (by omega)
  obtain ⟨v4, ev4⟩ : ∃ v, v = deN ((l.drop 25).take 2) := ⟨_, rfl⟩
  rw [← ev4] at x0
  (try rw [show ((25 + 2 : Nat) : Int) = 27 from rfl] at x0)
  (try rw [show ((25 : Nat) : Int) = 25 from rfl] at x0)
  (try rw [show ((2 : Nat) : Int) = 2 from rfl] at x0)
  have X4 := Aside0.mk (show tankardref01_Reader_Word.f 10 l 25 (-1) 2 = some (((v4 : Nat) : Int), 27, -1) from x0)
  clear x0
  have x0 := refW_f l hby 27 4 10 (by omega) (by omega) (by omega) (by omega)
  obtain ⟨v5, ev5⟩ : ∃ v, v = deN ((l.drop 27).take 4) := ⟨_, rfl⟩
  rw [← ev5] at x0
  (try rw [show ((27 + 4 : Nat) : Int) = 31 from rfl] at x0)
  (try rw [show ((27 : Nat) : Int) = 27 from rfl] at x0)
  (try rw [show ((4 : Nat) : Int) = 4 from rfl] at x0)
  have X5 := Aside0.mk (show tankardref01_Reader_Word.f 10 l 27 (-1) 4 = some (((v5 : Nat) : Int), 31, -1) from x0)
  clear x0
  have hT := Aside0.mk (ref_May_f (v0 : Nat) (wrap64 (v3 : Nat)) (wrap64 (v1 : Nat)) (wrap64 (v2 : Nat)) (wrap64 (v4 : Nat)) (wrap64 (v5 : Nat)))
  have I0 := Aside0.mk (IsS82.new W0 W0 A0 c0 l 0 (-1) (Below.refl _ _) HR.out)
  have Q0 := Aside0.mk (below_alloc (Below.refl W0.heap.size W0) (.cells #[.slice A0 l.length c0, .int .i64 0, .int .i64 (-1)] 82))
  have hsz : W0.heap.size = w.heap.size + 1 := by rw [← hW0]; simp [World.size_alloc]
  rw [hsz] at I0
  clear hsz
  have E := Aside0.mk (And.intro ev0 (And.intro ev1 (And.intro ev2 (And.intro ev3 (And.intro ev4 ev5)))))
  have hW := Aside0.mk hW0
  rw [h] at I0 Q0 ⊢
  clear hW0 hr0 hby HR ev0 ev1 ev2 ev3 ev4 ev5
  have hd : ((31 : Int) != 31) = false := by decide
  go_enter Tryz.func20, Tryz.ntmps20
  go_wp2_with fail
  rw [hW.out]

  refine Calls.mono (tankardref01_Reader_Word.calls 10 (w.heap.size + 1) l 0 (-1) 8 _ _ _ W0 _ ?i0 ?q0 X0.out) ?m0
  case i0 => exact I0.out
  case q0 => exact Q0.out
  rintro e w1 ⟨rfl, hI, hQ, _⟩
  have I1 := Aside0.mk hI
  have Q1 := Aside0.mk hQ
  clear hI hQ
  go_wp2_with fail
  refine Calls.mono (tankardref01_Reader_Word.calls 10 (w.heap.size + 1) l 8 (-1) 8 _ _ _ W0 _ ?i1 ?q1 X1.out) ?m1
  case i1 => exact I1.out
  case q1 => exact Q1.out
  rintro e w2 ⟨rfl, hI, hQ, _⟩
  have I2 := Aside0.mk hI
  have Q2 := Aside0.mk hQ
  clear hI hQ
  go_wp2_with fail
  refine Calls.mono (tankardref01_Reader_Word.calls 10 (w.heap.size + 1) l 16 (-1) 8 _ _ _ W0 _ ?i2 ?q2 X2.out) ?m2
  case i2 => exact I2.out
  case q2 => exact Q2.out
  rintro e w3 ⟨rfl, hI, hQ, _⟩
  have I3 := Aside0.mk hI
  have Q3 := Aside0.mk hQ
  clear hI hQ
  go_wp2_with fail
  refine Calls.mono (tankardref01_Reader_Word.calls 10 (w.heap.size + 1) l 24 (-1) 1 _ _ _ W0 _ ?i3 ?q3 X3.out) ?m3
  case i3 => exact I3.out
  case q3 => exact Q3.out
  rintro e w4 ⟨rfl, hI, hQ, _⟩
  have I4 := Aside0.mk hI
  have Q4 := Aside0.mk hQ
  clear hI hQ
  go_wp2_with fail
  refine Calls.mono (tankardref01_Reader_Word.calls 10 (w.heap.size + 1) l 25 (-1) 2 _ _ _ W0 _ ?i4 ?q4 X4.out) ?m4
  case i4 => exact I4.out
  case q4 => exact Q4.out
  rintro e w5 ⟨rfl, hI, hQ, _⟩
  have I5 := Aside0.mk hI
  have Q5 := Aside0.mk hQ
  clear hI hQ
  go_wp2_with fail
  refine Calls.mono (tankardref01_Reader_Word.calls 10 (w.heap.size + 1) l 27 (-1) 4 _ _ _ W0 _ ?i5 ?q5 X5.out) ?m5
  case i5 => exact I5.out
  case q5 => exact Q5.out
  rintro e w6 ⟨rfl, hI, hQ, _⟩
  have I6 := Aside0.mk hI
  have Q6 := Aside0.mk hQ
  clear hI hQ
  go_wp2_with fail
  refine (tankardref11_May.calls (v0 : Nat) (wrap64 (v3 : Nat)) (wrap64 (v1 : Nat)) (wrap64 (v2 : Nat)) (wrap64 (v4 : Nat)) (wrap64 (v5 : Nat)) _ _ hT.out).mono ?_
  rintro e w' ⟨rfl, hb⟩
  have hq := (Q6.out.block w.heap.size (blk_lt K0.out)).trans K0.out
  have hlt : w.heap.size < w6.heap.size := blk_lt hq
  have hne : ¬ w6.heap.size = w.heap.size := fun e => Nat.ne_of_lt hlt e.symm
  have hM := (hb.block w6.heap.size (by simp [World.size_alloc])).trans (heap_alloc_new w6 _)
  have hR := (hb.block w.heap.size (by simp only [World.size_alloc]; omega)).trans ((Below.heap_alloc _ _ _ hlt).trans hq)
  have HR2 := Aside0.mk hR
  have BL := Aside0.mk (below_step (below_alloc (B0.out.trans (Q6.out.mono (B0.out.size))) _) hb)
  have x0 : w'.cell? ⟨w6.heap.size, 0, none⟩ = some (.int .u64 (v0 : Nat)) := (blk_cell hM 0).trans rfl
  have y0 : w'.cell? ⟨w.heap.size, 0, none⟩ = some (.int .u64 0) := (blk_cell hR 0).trans rfl
  have f0 := blk_frozen hR 0
  have x1 : w'.cell? ⟨w6.heap.size, 1, none⟩ = some (.int .i64 (wrap64 (v3 : Nat))) := (blk_cell hM 1).trans rfl
  have y1 : w'.cell? ⟨w.heap.size, 1, none⟩ = some (.int .i64 0) := (blk_cell hR 1).trans rfl
  have f1 := blk_frozen hR 1
  have x2 : w'.cell? ⟨w6.heap.size, 2, none⟩ = some (.int .i64 (wrap64 (v1 : Nat))) := (blk_cell hM 2).trans rfl
  have y2 : w'.cell? ⟨w.heap.size, 2, none⟩ = some (.int .i64 0) := (blk_cell hR 2).trans rfl
  have f2 := blk_frozen hR 2
  have x3 : w'.cell? ⟨w6.heap.size, 3, none⟩ = some (.int .i64 (wrap64 (v2 : Nat))) := (blk_cell hM 3).trans rfl
  have y3 : w'.cell? ⟨w.heap.size, 3, none⟩ = some (.int .i64 0) := (blk_cell hR 3).trans rfl
  have f3 := blk_frozen hR 3
  have x4 : w'.cell? ⟨w6.heap.size, 4, none⟩ = some (.int .i64 (wrap64 (v4 : Nat))) := (blk_cell hM 4).trans rfl
  have y4 : w'.cell? ⟨w.heap.size, 4, none⟩ = some (.int .i64 0) := (blk_cell hR 4).trans rfl
  have f4 := blk_frozen hR 4
  have x5 : w'.cell? ⟨w6.heap.size, 5, none⟩ = some (.int .i64 (wrap64 (v5 : Nat))) := (blk_cell hM 5).trans rfl
  have y5 : w'.cell? ⟨w.heap.size, 5, none⟩ = some (.int .i64 0) := (blk_cell hR 5).trans rfl
  have f5 := blk_frozen hR 5
  clear hb hq hM hR
  go_wp2
  (try simp only [Exit.inBlock, Exit.then])
  refine bodyPost_ret (results_ct rfl _ _ w.heap.size 26 #[.int .u64 (v0 : Nat), .int .i64 (wrap64 (v3 : Nat)), .int .i64 (wrap64 (v1 : Nat)), .int .i64 (wrap64 (v2 : Nat)), .int .i64 (wrap64 (v4 : Nat)), .int .i64 (wrap64 (v5 : Nat))] (0, 0) _ rfl (set6 (.int .u64 (v0 : Nat)) (.int .i64 (wrap64 (v3 : Nat))) (.int .i64 (wrap64 (v1 : Nat))) (.int .i64 (wrap64 (v2 : Nat))) (.int .i64 (wrap64 (v4 : Nat))) (.int .i64 (wrap64 (v5 : Nat))) HR2.out) hu2 rfl (by kernel_rfl)) rfl ?_
  exact ⟨v0, v1, v2, v3, v4, v5, E.out.1, E.out.2.1, E.out.2.2.1, E.out.2.2.2.1, E.out.2.2.2.2.1, E.out.2.2.2.2.2, rfl, below6 (.int .u64 (v0 : Nat)) (.int .i64 (wrap64 (v3 : Nat))) (.int .i64 (wrap64 (v1 : Nat))) (.int .i64 (wrap64 (v2 : Nat))) (.int .i64 (wrap64 (v4 : Nat))) (.int .i64 (wrap64 (v5 : Nat))) BL.out (Nat.le_refl _)⟩
end Go.Proofs.YtbfmjbkhnbpbgaaGreatDoor.H
