/- What is got of any bytes, for a marker. Plain laws. The contract of tankard/tankardref11.Stood. The contract of tankard/tankardref11.Meta. The contract of tankard/tankardref11.Marker. meta.Get and tankardref11.Meta answer alike of any bytes; so do meta.Marked and tankardref11.Marker. The contract of tankardlaw00.Code: an error's number. The walk of MetaGets. -/
import Derived.Test.YtbfmjbkhnbpbgaaGreatDoorTold
import Derived.Test.YtbfmjbkhnbpbgaaGreatDoorMmarked
import Derived.Test.YtbfmjbkhnbpbgaaGreatDoorUp
set_option linter.unusedVariables false
set_option linter.unusedSimpArgs false
namespace Go.Proofs.YtbfmjbkhnbpbgaaGreatDoor.H
open Go.RowKit Go.Proofs.YtbfmjbkhnbpbgaaGreatDoorW.PrintWords Go.Proofs.YtbfmjbkhnbpbgaaGreatDoorW.PrintLast Go.Proofs.YtbfmjbkhnbpbgaaGreatDoorW.PrintMore
open Go.Proofs.YtbfmjbkhnbpbgaaGreatDoor.PF Go.Proofs.YtbfmjbkhnbpbgaaGreatDoor.Pl
/-- Of 24 bytes all is read; of any other number not. -/
theorem mark1_24 {l : List Int} (hl : l.length = 24) {v0 v1 v2 i : Nat} {b : Int} (h : mark1Reads l v0 v1 v2 i b) :
    v0 = deN ((l.drop 0).take 8) ∧ v1 = deN ((l.drop 8).take 8) ∧ v2 = deN ((l.drop 16).take 8) ∧ i = 24 ∧ b = -1 := by
  obtain ⟨i1, i2, b1, b2, ⟨e0, f0, g0⟩, ⟨e1, f1, g1⟩, ⟨e2, f2, g2⟩⟩ := h
  rcases word_case l 0 8 (-1) with ⟨_, _, x1, x2, x3⟩ | ⟨h, _, _⟩
  case inr => omega
  rw [x1] at e0; rw [x2] at f0; rw [x3] at g0
  subst f0 g0
  rcases word_case l (0 + 8) 8 (-1) with ⟨_, _, x1, x2, x3⟩ | ⟨h, _, _⟩
  case inr => omega
  rw [x1] at e1; rw [x2] at f1; rw [x3] at g1
  subst f1 g1
  rcases word_case l (0 + 8 + 8) 8 (-1) with ⟨_, _, x1, x2, x3⟩ | ⟨h, _, _⟩
  case inr => omega
  rw [x1] at e2; rw [x2] at f2; rw [x3] at g2
  exact ⟨e0, e1, e2, f2, g2⟩
theorem mark1_other {l : List Int} (hl : l.length ≠ 24) {v0 v1 v2 i : Nat} {b : Int} (h : mark1Reads l v0 v1 v2 i b) : ¬ (b < 0 ∧ l.length ≤ i) := by
  obtain ⟨i1, i2, b1, b2, ⟨e0, f0, g0⟩, ⟨e1, f1, g1⟩, ⟨e2, f2, g2⟩⟩ := h
  clear e0 e1 e2
  have bad : ∀ (b : Int) (i w : Nat), 0 ≤ b → wordB l i w b = b := by
    intro b i w hb
    rcases word_case l i w b with ⟨h, _⟩ | ⟨_, _, h⟩
    · omega
    · rw [h, if_neg (by omega)]
  rintro ⟨h1, h2⟩
  rcases word_case l 0 8 (-1) with ⟨_, _, _, x2, x3⟩ | ⟨_, _, x3⟩
  case inr =>
    rw [if_pos rfl] at x3
    rw [x3] at g0
    rw [g0, bad _ _ _ (by omega)] at g1
    rw [g1, bad _ _ _ (by omega)] at g2
    omega
  rw [x2] at f0; rw [x3] at g0
  subst f0 g0
  rcases word_case l (0 + 8) 8 (-1) with ⟨_, _, _, x2, x3⟩ | ⟨_, _, x3⟩
  case inr =>
    rw [if_pos rfl] at x3
    rw [x3] at g1
    rw [g1, bad _ _ _ (by omega)] at g2
    omega
  rw [x2] at f1; rw [x3] at g1
  subst f1 g1
  rcases word_case l (0 + 8 + 8) 8 (-1) with ⟨_, _, _, x2, x3⟩ | ⟨_, _, x3⟩
  case inr =>
    rw [if_pos rfl] at x3
    omega
  omega
end Go.Proofs.YtbfmjbkhnbpbgaaGreatDoor.H

set_option linter.unusedVariables false
set_option linter.unusedSimpArgs false
namespace Go.Proofs.YtbfmjbkhnbpbgaaGreatDoor.H
open Go.RowKit Go.Proofs.YtbfmjbkhnbpbgaaGreatDoorW.PrintWords Go.Proofs.YtbfmjbkhnbpbgaaGreatDoorW.PrintLast Go.Proofs.YtbfmjbkhnbpbgaaGreatDoorW.PrintMore
open Go.Proofs.YtbfmjbkhnbpbgaaGreatDoor.PF Go.Proofs.YtbfmjbkhnbpbgaaGreatDoor.Pl
set_option maxHeartbeats 800000 in
set_option maxRecDepth 100000 in
theorem stood_no (A0 : Option Addr) (c0 : Nat) (l : List Int) (w : World) (h : l.length ≠ 24) (hl : l.length ≤ 140737488355328) :
    Calls Tryz.prog 21 #[.slice A0 l.length c0] w fun e w' => e = .returned (.tuple #[.agg #[.int .u64 0, .int .i64 0, .int .u64 0], .bool false]) ∧ Below w.heap.size w w' := by
  have hu2 := Tryz.underlying32
  obtain ⟨W0, hW0⟩ : ∃ W0, w.alloc (.cells #[.int .u64 0, .int .i64 0, .int .u64 0] 32) = W0 := ⟨_, rfl⟩
  have B0 := Aside0.mk (show Below w.heap.size w W0 by rw [← hW0]; exact below_alloc (Below.refl _ _) _)
  have K0 := Aside0.mk (show W0.heap[w.heap.size]? = some (.cells #[.int .u64 0, .int .i64 0, .int .u64 0] 32 (0, 0)) by rw [← hW0]; exact heap_alloc_new w _)
  have hd : ((l.length : Int) == 24) = false := beq_eq_false_iff_ne.mpr (by omega)
  have hd2 : ((l.length : Int) != 24) = true := bne_iff_ne.mpr (by omega)
  have y0 : W0.cell? ⟨w.heap.size, 0, none⟩ = some (.int .u64 0) := (blk_cell K0.out 0).trans rfl
  have f0 := blk_frozen K0.out 0
  have y1 : W0.cell? ⟨w.heap.size, 1, none⟩ = some (.int .i64 0) := (blk_cell K0.out 1).trans rfl
  have f1 := blk_frozen K0.out 1
  have y2 : W0.cell? ⟨w.heap.size, 2, none⟩ = some (.int .u64 0) := (blk_cell K0.out 2).trans rfl
  have f2 := blk_frozen K0.out 2
  subst hW0
  go_enter Tryz.func21, Tryz.ntmps21
  go_wp2
  (try simp only [Exit.inBlock, Exit.then])
  refine bodyPost_ret (results_ct rfl _ _ w.heap.size 32 #[.int .u64 0, .int .i64 0, .int .u64 0] (0, 0) _ rfl (by first | exact K0.out | exact set3 (.int .u64 0) (.int .i64 0) (.int .u64 0) K0.out) hu2 rfl (by kernel_rfl)) rfl ?_
  exact ⟨rfl, by first | exact B0.out | exact below3 (.int .u64 0) (.int .i64 0) (.int .u64 0) B0.out (Nat.le_refl _)⟩
set_option maxHeartbeats 1600000 in
set_option maxRecDepth 100000 in
theorem stood_yes (A0 : Option Addr) (c0 : Nat) (l : List Int) (w : World) (hr0 : Kd.C (Kd.int .u8) w A0 l.length l) (hby : Bytes l) (h : l.length = 24) :
    Calls Tryz.prog 21 #[.slice A0 l.length c0] w fun e w' => ∃ v0 v1 v2 : Nat, v0 = deN ((l.drop 0).take 8) ∧ v1 = deN ((l.drop 8).take 8) ∧ v2 = deN ((l.drop 16).take 8) ∧ e = .returned (.tuple #[.agg #[.int .u64 (v0 : Nat), .int .i64 (wrap64 (v1 : Nat)), .int .u64 (v2 : Nat)], .bool (fairB (v0 : Nat) (wrap64 (v1 : Nat)) (v2 : Nat))]) ∧ Below w.heap.size w w' := by
  have hu2 := Tryz.underlying32
  obtain ⟨W0, hW0⟩ : ∃ W0, w.alloc (.cells #[.int .u64 0, .int .i64 0, .int .u64 0] 32) = W0 := ⟨_, rfl⟩
  have B0 := Aside0.mk (show Below w.heap.size w W0 by rw [← hW0]; exact below_alloc (Below.refl _ _) _)
  have K0 := Aside0.mk (show W0.heap[w.heap.size]? = some (.cells #[.int .u64 0, .int .i64 0, .int .u64 0] 32 (0, 0)) by rw [← hW0]; exact heap_alloc_new w _)
  have HR := Aside0.mk (Kd.C_below hr0 B0.out)
  have x0 := refW_f l hby 0 8 10 (by omega) (by omega) (by omega) (by omega)
  obtain ⟨v0, ev0⟩ : ∃ v, v = deN ((l.drop 0).take 8) := ⟨_, rfl⟩
  rw [← ev0] at x0
  (try rw [show ((0 + 8 : Nat) : Int) = 8 from rfl] at x0)
  (try rw [show ((0 : Nat) : Int) = 0 from rfl] at x0)
  (try rw [show ((8 : Nat) : Int) = 8 from rfl] at x0)
  have X0 := Aside0.mk (show tankardref01_Reader_Word.f 10 l 0 (-1) 8 = some (((v0 : Nat) : Int), 8, -1) from x0)
  clear x0
  have x0 := refW_f l hby 8 8 10 (by omega) (by omega) (by omega) (by omega)
  obtain ⟨v1, ev1⟩ : ∃ v, v = deN ((l.drop 8).take 8) := ⟨_, rfl⟩
  rw [← ev1] at x0
  (try rw [show ((8 + 8 : Nat) : Int) = 16 from rfl] at x0)
  (try rw [show ((8 : Nat) : Int) = 8 from rfl] at x0)
  (try rw [show ((8 : Nat) : Int) = 8 from rfl] at x0)
  have X1 := Aside0.mk (show tankardref01_Reader_Word.f 10 l 8 (-1) 8 = some (((v1 : Nat) : Int), 16, -1) from x0)
  clear x0
  have x0 := refW_f l hby 16 8 10 (by omega) (by omega) (by omega) (by omega)
  obtain ⟨v2, ev2⟩ : ∃ v, v = deN ((l.drop 16).take 8) := ⟨_, rfl⟩
  rw [← ev2] at x0
  (try rw [show ((16 + 8 : Nat) : Int) = 24 from rfl] at x0)
  (try rw [show ((16 : Nat) : Int) = 16 from rfl] at x0)
  (try rw [show ((8 : Nat) : Int) = 8 from rfl] at x0)
  have X2 := Aside0.mk (show tankardref01_Reader_Word.f 10 l 16 (-1) 8 = some (((v2 : Nat) : Int), 24, -1) from x0)
  clear x0
  have hT := Aside0.mk (ref_Fair_f (v0 : Nat) (wrap64 (v1 : Nat)) (v2 : Nat))
  have I0 := Aside0.mk (IsS82.new W0 W0 A0 c0 l 0 (-1) (Below.refl _ _) HR.out)
  have Q0 := Aside0.mk (below_alloc (Below.refl W0.heap.size W0) (.cells #[.slice A0 l.length c0, .int .i64 0, .int .i64 (-1)] 82))
  have hsz : W0.heap.size = w.heap.size + 1 := by rw [← hW0]; simp [World.size_alloc]
  rw [hsz] at I0
  clear hsz
  have E := Aside0.mk (And.intro ev0 (And.intro ev1 (ev2)))
  have hW := Aside0.mk hW0
  rw [h] at I0 Q0 ⊢
  clear hW0 hr0 hby HR ev0 ev1 ev2
  have hd : ((24 : Int) != 24) = false := by decide
  go_enter Tryz.func21, Tryz.ntmps21
  go_wp2_with fail
  rw [hW.out]

  refine Calls.mono (tankardref01_Reader_Word.calls 10 (w.heap.size + 1) l 0 (-1) 8 _ _ _ W0 _ ?i0 ?q0 X0.out) ?m0
  case i0 => exact I0.out
  case q0 => exact Q0.out
  rintro e w1 ⟨rfl, hI, hQ, _⟩
  have I1 := Aside0.mk hI
  have Q1 := Aside0.mk hQ
  clear hI hQ
  go_wp2_with fail
  refine Calls.mono (tankardref01_Reader_Word.calls 10 (w.heap.size + 1) l 8 (-1) 8 _ _ _ W0 _ ?i1 ?q1 X1.out) ?m1
  case i1 => exact I1.out
  case q1 => exact Q1.out
  rintro e w2 ⟨rfl, hI, hQ, _⟩
  have I2 := Aside0.mk hI
  have Q2 := Aside0.mk hQ
  clear hI hQ
  go_wp2_with fail
  refine Calls.mono (tankardref01_Reader_Word.calls 10 (w.heap.size + 1) l 16 (-1) 8 _ _ _ W0 _ ?i2 ?q2 X2.out) ?m2
  case i2 => exact I2.out
  case q2 => exact Q2.out
  rintro e w3 ⟨rfl, hI, hQ, _⟩
  have I3 := Aside0.mk hI
  have Q3 := Aside0.mk hQ
  clear hI hQ
  go_wp2_with fail
  refine (tankardref11_Fair.calls (v0 : Nat) (wrap64 (v1 : Nat)) (v2 : Nat) _ _ hT.out).mono ?_
  rintro e w' ⟨rfl, hb⟩
  have hq := (Q3.out.block w.heap.size (blk_lt K0.out)).trans K0.out
  have hlt : w.heap.size < w3.heap.size := blk_lt hq
  have hne : ¬ w3.heap.size = w.heap.size := fun e => Nat.ne_of_lt hlt e.symm
  have hM := (hb.block w3.heap.size (by simp [World.size_alloc])).trans (heap_alloc_new w3 _)
  have hR := (hb.block w.heap.size (by simp only [World.size_alloc]; omega)).trans ((Below.heap_alloc _ _ _ hlt).trans hq)
  have HR2 := Aside0.mk hR
  have BL := Aside0.mk (below_step (below_alloc (B0.out.trans (Q3.out.mono (B0.out.size))) _) hb)
  have x0 : w'.cell? ⟨w3.heap.size, 0, none⟩ = some (.int .u64 (v0 : Nat)) := (blk_cell hM 0).trans rfl
  have y0 : w'.cell? ⟨w.heap.size, 0, none⟩ = some (.int .u64 0) := (blk_cell hR 0).trans rfl
  have f0 := blk_frozen hR 0
  have x1 : w'.cell? ⟨w3.heap.size, 1, none⟩ = some (.int .i64 (wrap64 (v1 : Nat))) := (blk_cell hM 1).trans rfl
  have y1 : w'.cell? ⟨w.heap.size, 1, none⟩ = some (.int .i64 0) := (blk_cell hR 1).trans rfl
  have f1 := blk_frozen hR 1
  have x2 : w'.cell? ⟨w3.heap.size, 2, none⟩ = some (.int .u64 (v2 : Nat)) := (blk_cell hM 2).trans rfl
  have y2 : w'.cell? ⟨w.heap.size, 2, none⟩ = some (.int .u64 0) := (blk_cell hR 2).trans rfl
  have f2 := blk_frozen hR 2
  clear hb hq hM hR
  go_wp2
  (try simp only [Exit.inBlock, Exit.then])
  refine bodyPost_ret (results_ct rfl _ _ w.heap.size 32 #[.int .u64 (v0 : Nat), .int .i64 (wrap64 (v1 : Nat)), .int .u64 (v2 : Nat)] (0, 0) _ rfl (set3 (.int .u64 (v0 : Nat)) (.int .i64 (wrap64 (v1 : Nat))) (.int .u64 (v2 : Nat)) HR2.out) hu2 rfl (by kernel_rfl)) rfl ?_
  exact ⟨v0, v1, v2, E.out.1, E.out.2.1, E.out.2.2, rfl, below3 (.int .u64 (v0 : Nat)) (.int .i64 (wrap64 (v1 : Nat))) (.int .u64 (v2 : Nat)) BL.out (Nat.le_refl _)⟩
end Go.Proofs.YtbfmjbkhnbpbgaaGreatDoor.H

set_option linter.unusedVariables false
set_option linter.unusedSimpArgs false
namespace Go.Proofs.YtbfmjbkhnbpbgaaGreatDoor.H
open Go.RowKit Go.Proofs.YtbfmjbkhnbpbgaaGreatDoorW.PrintWords Go.Proofs.YtbfmjbkhnbpbgaaGreatDoorW.PrintLast Go.Proofs.YtbfmjbkhnbpbgaaGreatDoorW.PrintMore
open Go.Proofs.YtbfmjbkhnbpbgaaGreatDoor.PF Go.Proofs.YtbfmjbkhnbpbgaaGreatDoor.Pl
set_option maxHeartbeats 200000 in
set_option maxRecDepth 100000 in
theorem refmeta_short (A0 : Option Addr) (c0 : Nat) (l0 : List Int) (w : World) (h : l0.length < 4) :
    Calls Tryz.prog 7 #[.slice A0 l0.length c0] w fun e w' => e = .returned (.tuple #[.agg #[.int .u64 0, .int .i64 0, .int .i64 0, .int .i64 0, .int .i64 0, .int .i64 0], .int .i64 2]) ∧ Below w.heap.size w w' := by
  have hu2 := Tryz.underlying26
  obtain ⟨W0, hW0⟩ : ∃ W0, w.alloc (.cells #[.int .u64 0, .int .i64 0, .int .i64 0, .int .i64 0, .int .i64 0, .int .i64 0] 26) = W0 := ⟨_, rfl⟩
  have B0 := Aside0.mk (show Below w.heap.size w W0 by rw [← hW0]; exact below_alloc (Below.refl _ _) _)
  have K0 := Aside0.mk (show W0.heap[w.heap.size]? = some (.cells #[.int .u64 0, .int .i64 0, .int .i64 0, .int .i64 0, .int .i64 0, .int .i64 0] 26 (0, 0)) by rw [← hW0]; exact heap_alloc_new w _)
  have HW := Aside0.mk hW0
  clear hW0
  have HO := Aside0.mk (ref_Open_short A0 c0 l0 W0 h)
  clear h
  go_enter Tryz.func7, Tryz.ntmps7
  go_wp2_with fail
  rw [HW.out]
  refine HO.out.mono ?_
  rintro e w1 ⟨rfl, hb⟩
  have hR := (hb.block w.heap.size (blk_lt K0.out)).trans K0.out
  have B1 := Aside0.mk (below_step B0.out hb)
  have HR := Aside0.mk hR
  have y0 : w1.cell? ⟨w.heap.size, 0, none⟩ = some (.int .u64 0) := (blk_cell hR 0).trans rfl
  have f0 := blk_frozen hR 0
  have y1 : w1.cell? ⟨w.heap.size, 1, none⟩ = some (.int .i64 0) := (blk_cell hR 1).trans rfl
  have f1 := blk_frozen hR 1
  have y2 : w1.cell? ⟨w.heap.size, 2, none⟩ = some (.int .i64 0) := (blk_cell hR 2).trans rfl
  have f2 := blk_frozen hR 2
  have y3 : w1.cell? ⟨w.heap.size, 3, none⟩ = some (.int .i64 0) := (blk_cell hR 3).trans rfl
  have f3 := blk_frozen hR 3
  have y4 : w1.cell? ⟨w.heap.size, 4, none⟩ = some (.int .i64 0) := (blk_cell hR 4).trans rfl
  have f4 := blk_frozen hR 4
  have y5 : w1.cell? ⟨w.heap.size, 5, none⟩ = some (.int .i64 0) := (blk_cell hR 5).trans rfl
  have f5 := blk_frozen hR 5
  clear hR hb
  go_wp2
  (try simp only [Exit.inBlock, Exit.then])
  refine bodyPost_ret (results_ct rfl _ _ w.heap.size 26 #[.int .u64 0, .int .i64 0, .int .i64 0, .int .i64 0, .int .i64 0, .int .i64 0] (0, 0) _ rfl (set6 (.int .u64 0) (.int .i64 0) (.int .i64 0) (.int .i64 0) (.int .i64 0) (.int .i64 0) HR.out) hu2 rfl (by kernel_rfl)) rfl ?_
  exact ⟨rfl, (below6 (.int .u64 0) (.int .i64 0) (.int .i64 0) (.int .i64 0) (.int .i64 0) (.int .i64 0) B1.out (Nat.le_refl _))⟩
set_option maxHeartbeats 200000 in
set_option maxRecDepth 100000 in
theorem refmeta_sum (A0 : Option Addr) (c0 : Nat) (l0 : List Int) (w : World) (hr0 : Kd.C (Kd.int .u8) w A0 l0.length l0) (hc0 : l0.length ≤ c0) (hby : Bytes l0) (hlen : l0.length ≤ 140737488355000) (h4 : 4 ≤ l0.length) (hs : sealed (l0.take (l0.length - 4)) ≠ l0) :
    Calls Tryz.prog 7 #[.slice A0 l0.length c0] w fun e w' => e = .returned (.tuple #[.agg #[.int .u64 0, .int .i64 0, .int .i64 0, .int .i64 0, .int .i64 0, .int .i64 0], .int .i64 7]) ∧ Below w.heap.size w w' := by
  have hu2 := Tryz.underlying26
  obtain ⟨W0, hW0⟩ : ∃ W0, w.alloc (.cells #[.int .u64 0, .int .i64 0, .int .i64 0, .int .i64 0, .int .i64 0, .int .i64 0] 26) = W0 := ⟨_, rfl⟩
  have B0 := Aside0.mk (show Below w.heap.size w W0 by rw [← hW0]; exact below_alloc (Below.refl _ _) _)
  have K0 := Aside0.mk (show W0.heap[w.heap.size]? = some (.cells #[.int .u64 0, .int .i64 0, .int .i64 0, .int .i64 0, .int .i64 0, .int .i64 0] 26 (0, 0)) by rw [← hW0]; exact heap_alloc_new w _)
  have HW := Aside0.mk hW0
  clear hW0
  have HO := Aside0.mk (ref_Open_sum A0 c0 l0 W0 (Kd.C_below hr0 B0.out) hc0 hby hlen h4 hs)
  clear hr0 hc0 hby hlen h4 hs
  go_enter Tryz.func7, Tryz.ntmps7
  go_wp2_with fail
  rw [HW.out]
  refine HO.out.mono ?_
  rintro e w1 ⟨rfl, hb⟩
  have hR := (hb.block w.heap.size (blk_lt K0.out)).trans K0.out
  have B1 := Aside0.mk (below_step B0.out hb)
  have HR := Aside0.mk hR
  have y0 : w1.cell? ⟨w.heap.size, 0, none⟩ = some (.int .u64 0) := (blk_cell hR 0).trans rfl
  have f0 := blk_frozen hR 0
  have y1 : w1.cell? ⟨w.heap.size, 1, none⟩ = some (.int .i64 0) := (blk_cell hR 1).trans rfl
  have f1 := blk_frozen hR 1
  have y2 : w1.cell? ⟨w.heap.size, 2, none⟩ = some (.int .i64 0) := (blk_cell hR 2).trans rfl
  have f2 := blk_frozen hR 2
  have y3 : w1.cell? ⟨w.heap.size, 3, none⟩ = some (.int .i64 0) := (blk_cell hR 3).trans rfl
  have f3 := blk_frozen hR 3
  have y4 : w1.cell? ⟨w.heap.size, 4, none⟩ = some (.int .i64 0) := (blk_cell hR 4).trans rfl
  have f4 := blk_frozen hR 4
  have y5 : w1.cell? ⟨w.heap.size, 5, none⟩ = some (.int .i64 0) := (blk_cell hR 5).trans rfl
  have f5 := blk_frozen hR 5
  clear hR hb
  go_wp2
  (try simp only [Exit.inBlock, Exit.then])
  refine bodyPost_ret (results_ct rfl _ _ w.heap.size 26 #[.int .u64 0, .int .i64 0, .int .i64 0, .int .i64 0, .int .i64 0, .int .i64 0] (0, 0) _ rfl (set6 (.int .u64 0) (.int .i64 0) (.int .i64 0) (.int .i64 0) (.int .i64 0) (.int .i64 0) HR.out) hu2 rfl (by kernel_rfl)) rfl ?_
  exact ⟨rfl, (below6 (.int .u64 0) (.int .i64 0) (.int .i64 0) (.int .i64 0) (.int .i64 0) (.int .i64 0) B1.out (Nat.le_refl _))⟩
set_option maxHeartbeats 200000 in
set_option maxRecDepth 100000 in
theorem refmeta_other (A0 : Option Addr) (c0 : Nat) (l0 : List Int) (w : World) (hr0 : Kd.C (Kd.int .u8) w A0 l0.length l0) (hc0 : l0.length ≤ c0) (hby : Bytes l0) (hlen : l0.length ≤ 140737488355000) (h4 : 4 ≤ l0.length) (hs : sealed (l0.take (l0.length - 4)) = l0) (hl : l0.length ≠ 35) :
    Calls Tryz.prog 7 #[.slice A0 l0.length c0] w fun e w' => e = .returned (.tuple #[.agg #[.int .u64 0, .int .i64 0, .int .i64 0, .int .i64 0, .int .i64 0, .int .i64 0], .int .i64 2]) ∧ Below w.heap.size w w' := by
  have hu2 := Tryz.underlying26
  obtain ⟨W0, hW0⟩ : ∃ W0, w.alloc (.cells #[.int .u64 0, .int .i64 0, .int .i64 0, .int .i64 0, .int .i64 0, .int .i64 0] 26) = W0 := ⟨_, rfl⟩
  have B0 := Aside0.mk (show Below w.heap.size w W0 by rw [← hW0]; exact below_alloc (Below.refl _ _) _)
  have K0 := Aside0.mk (show W0.heap[w.heap.size]? = some (.cells #[.int .u64 0, .int .i64 0, .int .i64 0, .int .i64 0, .int .i64 0, .int .i64 0] 26 (0, 0)) by rw [← hW0]; exact heap_alloc_new w _)
  have HW := Aside0.mk hW0
  clear hW0
  have HO := Aside0.mk (ref_Open_ok A0 c0 l0 W0 (Kd.C_below hr0 B0.out) hc0 hby hlen h4 hs)
  have htl : (l0.take (l0.length - 4)).length = l0.length - 4 := by rw [List.length_take]; omega
  have HT := Aside0.mk (fun W => told_no A0 c0 (l0.take (l0.length - 4)) W (by omega) (by omega))
  rw [htl] at HT
  clear htl hr0 hc0 hby hlen hs hl
  go_enter Tryz.func7, Tryz.ntmps7
  go_wp2_with fail
  rw [HW.out]
  refine HO.out.mono ?_
  rintro e w1 ⟨rfl, hb⟩
  have K1 := Aside0.mk ((hb.block w.heap.size (blk_lt K0.out)).trans K0.out)
  have B1 := Aside0.mk (below_step B0.out hb)
  clear hb
  go_wp2_with fail
  refine (HT.out _).mono ?_
  rintro e w2 ⟨rfl, hb⟩
  have hR := (hb.block w.heap.size (blk_lt K1.out)).trans K1.out
  have B2 := Aside0.mk (below_step B1.out hb)
  have hlt : w.heap.size < w2.heap.size := blk_lt hR
  have hne : ¬ w2.heap.size = w.heap.size := fun e => Nat.ne_of_lt hlt e.symm
  have hne' : w.heap.size ≠ w2.heap.size := Nat.ne_of_lt hlt
  have HR := Aside0.mk ((Below.heap_alloc _ (.cells #[.int .u64 0, .int .i64 0, .int .i64 0, .int .i64 0, .int .i64 0, .int .i64 0] 26) _ (by simpa using hlt)).trans (set6 (.int .u64 0) (.int .i64 0) (.int .i64 0) (.int .i64 0) (.int .i64 0) (.int .i64 0) hR))
  have B3 := Aside0.mk (below_alloc (below6 (.int .u64 0) (.int .i64 0) (.int .i64 0) (.int .i64 0) (.int .i64 0) (.int .i64 0) B2.out (Nat.le_refl _)) (.cells #[.int .u64 0, .int .i64 0, .int .i64 0, .int .i64 0, .int .i64 0, .int .i64 0] 26))
  have y0 : w2.cell? ⟨w.heap.size, 0, none⟩ = some (.int .u64 0) := (blk_cell hR 0).trans rfl
  have f0 := blk_frozen hR 0
  have y1 : w2.cell? ⟨w.heap.size, 1, none⟩ = some (.int .i64 0) := (blk_cell hR 1).trans rfl
  have f1 := blk_frozen hR 1
  have y2 : w2.cell? ⟨w.heap.size, 2, none⟩ = some (.int .i64 0) := (blk_cell hR 2).trans rfl
  have f2 := blk_frozen hR 2
  have y3 : w2.cell? ⟨w.heap.size, 3, none⟩ = some (.int .i64 0) := (blk_cell hR 3).trans rfl
  have f3 := blk_frozen hR 3
  have y4 : w2.cell? ⟨w.heap.size, 4, none⟩ = some (.int .i64 0) := (blk_cell hR 4).trans rfl
  have f4 := blk_frozen hR 4
  have y5 : w2.cell? ⟨w.heap.size, 5, none⟩ = some (.int .i64 0) := (blk_cell hR 5).trans rfl
  have f5 := blk_frozen hR 5
  clear hR hb
  go_wp2
  (try simp only [Exit.inBlock, Exit.then])
  refine bodyPost_ret (results_ct rfl _ _ w.heap.size 26 #[.int .u64 0, .int .i64 0, .int .i64 0, .int .i64 0, .int .i64 0, .int .i64 0] (0, 0) _ rfl HR.out hu2 rfl (by kernel_rfl)) rfl ?_
  exact ⟨rfl, B3.out⟩
set_option maxHeartbeats 800000 in
set_option maxRecDepth 100000 in
theorem refmeta_yes (A0 : Option Addr) (c0 : Nat) (l0 : List Int) (w : World) (hr0 : Kd.C (Kd.int .u8) w A0 l0.length l0) (hc0 : l0.length ≤ c0) (hby : Bytes l0) (hlen : l0.length ≤ 140737488355000) (h4 : 4 ≤ l0.length) (hs : sealed (l0.take (l0.length - 4)) = l0) (hl : l0.length = 35) :
    Calls Tryz.prog 7 #[.slice A0 l0.length c0] w fun e w' => ∃ v0 v1 v2 v3 v4 v5 : Nat, v0 = deN (((l0.take (l0.length - 4)).drop 0).take 8) ∧ v1 = deN (((l0.take (l0.length - 4)).drop 8).take 8) ∧ v2 = deN (((l0.take (l0.length - 4)).drop 16).take 8) ∧ v3 = deN (((l0.take (l0.length - 4)).drop 24).take 1) ∧ v4 = deN (((l0.take (l0.length - 4)).drop 25).take 2) ∧ v5 = deN (((l0.take (l0.length - 4)).drop 27).take 4) ∧ e = .returned (if mayB (v0 : Nat) (wrap64 (v3 : Nat)) (wrap64 (v1 : Nat)) (wrap64 (v2 : Nat)) (wrap64 (v4 : Nat)) (wrap64 (v5 : Nat)) = true then .tuple #[.agg #[.int .u64 (v0 : Nat), .int .i64 (wrap64 (v3 : Nat)), .int .i64 (wrap64 (v1 : Nat)), .int .i64 (wrap64 (v2 : Nat)), .int .i64 (wrap64 (v4 : Nat)), .int .i64 (wrap64 (v5 : Nat))], .int .i64 0] else .tuple #[.agg #[.int .u64 0, .int .i64 0, .int .i64 0, .int .i64 0, .int .i64 0, .int .i64 0], .int .i64 2]) ∧ Below w.heap.size w w' := by
  have hu2 := Tryz.underlying26
  obtain ⟨W0, hW0⟩ : ∃ W0, w.alloc (.cells #[.int .u64 0, .int .i64 0, .int .i64 0, .int .i64 0, .int .i64 0, .int .i64 0] 26) = W0 := ⟨_, rfl⟩
  have B0 := Aside0.mk (show Below w.heap.size w W0 by rw [← hW0]; exact below_alloc (Below.refl _ _) _)
  have K0 := Aside0.mk (show W0.heap[w.heap.size]? = some (.cells #[.int .u64 0, .int .i64 0, .int .i64 0, .int .i64 0, .int .i64 0, .int .i64 0] 26 (0, 0)) by rw [← hW0]; exact heap_alloc_new w _)
  have HW := Aside0.mk hW0
  clear hW0
  have HO := Aside0.mk (ref_Open_ok A0 c0 l0 W0 (Kd.C_below hr0 B0.out) hc0 hby hlen h4 hs)
  have htl : (l0.take (l0.length - 4)).length = l0.length - 4 := by rw [List.length_take]; omega
  have HT := Aside0.mk (fun W (hb : Below w.heap.size w W) => told_yes A0 c0 (l0.take (l0.length - 4)) W (Kd.C_take (m := l0.length - 4) (Kd.C_below hr0 hb) (by omega)) (hby.take _) (by omega))
  rw [htl] at HT
  clear htl hr0 hc0 hby hlen hs hl
  go_enter Tryz.func7, Tryz.ntmps7
  go_wp2_with fail
  rw [HW.out]
  refine HO.out.mono ?_
  rintro e w1 ⟨rfl, hb⟩
  have K1 := Aside0.mk ((hb.block w.heap.size (blk_lt K0.out)).trans K0.out)
  have B1 := Aside0.mk (below_step B0.out hb)
  clear hb
  go_wp2_with fail
  refine (HT.out _ B1.out).mono ?_
  rintro e w2 ⟨v0, v1, v2, v3, v4, v5, ev0, ev1, ev2, ev3, ev4, ev5, rfl, hb⟩
  have E := Aside0.mk (And.intro ev0 (And.intro ev1 (And.intro ev2 (And.intro ev3 (And.intro ev4 ev5)))))
  have hR := (hb.block w.heap.size (blk_lt K1.out)).trans K1.out
  have B2 := Aside0.mk (below_step B1.out hb)
  have hlt : w.heap.size < w2.heap.size := blk_lt hR
  have hne : ¬ w2.heap.size = w.heap.size := fun e => Nat.ne_of_lt hlt e.symm
  have hne' : w.heap.size ≠ w2.heap.size := Nat.ne_of_lt hlt
  have HR := Aside0.mk hR
  have y0 : w2.cell? ⟨w.heap.size, 0, none⟩ = some (.int .u64 0) := (blk_cell hR 0).trans rfl
  have f0 := blk_frozen hR 0
  have y1 : w2.cell? ⟨w.heap.size, 1, none⟩ = some (.int .i64 0) := (blk_cell hR 1).trans rfl
  have f1 := blk_frozen hR 1
  have y2 : w2.cell? ⟨w.heap.size, 2, none⟩ = some (.int .i64 0) := (blk_cell hR 2).trans rfl
  have f2 := blk_frozen hR 2
  have y3 : w2.cell? ⟨w.heap.size, 3, none⟩ = some (.int .i64 0) := (blk_cell hR 3).trans rfl
  have f3 := blk_frozen hR 3
  have y4 : w2.cell? ⟨w.heap.size, 4, none⟩ = some (.int .i64 0) := (blk_cell hR 4).trans rfl
  have f4 := blk_frozen hR 4
  have y5 : w2.cell? ⟨w.heap.size, 5, none⟩ = some (.int .i64 0) := (blk_cell hR 5).trans rfl
  have f5 := blk_frozen hR 5
  clear hR hb ev0 ev1 ev2 ev3 ev4 ev5
  obtain ⟨may, hmay⟩ : ∃ m, mayB (v0 : Nat) (wrap64 (v3 : Nat)) (wrap64 (v1 : Nat)) (wrap64 (v2 : Nat)) (wrap64 (v4 : Nat)) (wrap64 (v5 : Nat)) = m := ⟨_, rfl⟩
  rw [hmay]
  have HMAY := Aside0.mk hmay
  clear hmay
  cases may
  case true =>
    go_wp2
    (try simp only [Exit.inBlock, Exit.then])
    refine bodyPost_ret (results_ct rfl _ _ w.heap.size 26 #[.int .u64 (v0 : Nat), .int .i64 (wrap64 (v3 : Nat)), .int .i64 (wrap64 (v1 : Nat)), .int .i64 (wrap64 (v2 : Nat)), .int .i64 (wrap64 (v4 : Nat)), .int .i64 (wrap64 (v5 : Nat))] (0, 0) _ rfl ((Below.heap_alloc _ (.cells #[.int .u64 (v0 : Nat), .int .i64 (wrap64 (v3 : Nat)), .int .i64 (wrap64 (v1 : Nat)), .int .i64 (wrap64 (v2 : Nat)), .int .i64 (wrap64 (v4 : Nat)), .int .i64 (wrap64 (v5 : Nat))] 26) _ (by simpa using hlt)).trans (set6 (.int .u64 (v0 : Nat)) (.int .i64 (wrap64 (v3 : Nat))) (.int .i64 (wrap64 (v1 : Nat))) (.int .i64 (wrap64 (v2 : Nat))) (.int .i64 (wrap64 (v4 : Nat))) (.int .i64 (wrap64 (v5 : Nat))) HR.out)) hu2 rfl (by kernel_rfl)) rfl ?_
    exact ⟨v0, v1, v2, v3, v4, v5, E.out.1, E.out.2.1, E.out.2.2.1, E.out.2.2.2.1, E.out.2.2.2.2.1, E.out.2.2.2.2.2, by rw [HMAY.out, if_pos rfl]; rfl, below_alloc (below6 (.int .u64 (v0 : Nat)) (.int .i64 (wrap64 (v3 : Nat))) (.int .i64 (wrap64 (v1 : Nat))) (.int .i64 (wrap64 (v2 : Nat))) (.int .i64 (wrap64 (v4 : Nat))) (.int .i64 (wrap64 (v5 : Nat))) B2.out (Nat.le_refl _)) _⟩
  case false =>
    go_wp2
    (try simp only [Exit.inBlock, Exit.then])
    refine bodyPost_ret (results_ct rfl _ _ w.heap.size 26 #[.int .u64 0, .int .i64 0, .int .i64 0, .int .i64 0, .int .i64 0, .int .i64 0] (0, 0) _ rfl ((Below.heap_alloc _ (.cells #[.int .u64 (v0 : Nat), .int .i64 (wrap64 (v3 : Nat)), .int .i64 (wrap64 (v1 : Nat)), .int .i64 (wrap64 (v2 : Nat)), .int .i64 (wrap64 (v4 : Nat)), .int .i64 (wrap64 (v5 : Nat))] 26) _ (by simpa using hlt)).trans (set6 (.int .u64 0) (.int .i64 0) (.int .i64 0) (.int .i64 0) (.int .i64 0) (.int .i64 0) HR.out)) hu2 rfl (by kernel_rfl)) rfl ?_
    exact ⟨v0, v1, v2, v3, v4, v5, E.out.1, E.out.2.1, E.out.2.2.1, E.out.2.2.2.1, E.out.2.2.2.2.1, E.out.2.2.2.2.2, by rw [HMAY.out, if_neg (by decide)]; rfl, below_alloc (below6 (.int .u64 0) (.int .i64 0) (.int .i64 0) (.int .i64 0) (.int .i64 0) (.int .i64 0) B2.out (Nat.le_refl _)) _⟩
end Go.Proofs.YtbfmjbkhnbpbgaaGreatDoor.H

set_option linter.unusedVariables false
set_option linter.unusedSimpArgs false
namespace Go.Proofs.YtbfmjbkhnbpbgaaGreatDoor.H
open Go.RowKit Go.Proofs.YtbfmjbkhnbpbgaaGreatDoorW.PrintWords Go.Proofs.YtbfmjbkhnbpbgaaGreatDoorW.PrintLast Go.Proofs.YtbfmjbkhnbpbgaaGreatDoorW.PrintMore
open Go.Proofs.YtbfmjbkhnbpbgaaGreatDoor.PF Go.Proofs.YtbfmjbkhnbpbgaaGreatDoor.Pl
set_option maxHeartbeats 200000 in
set_option maxRecDepth 100000 in
theorem refmark_short (A0 : Option Addr) (c0 : Nat) (l0 : List Int) (w : World) (h : l0.length < 4) :
    Calls Tryz.prog 8 #[.slice A0 l0.length c0] w fun e w' => e = .returned (.tuple #[.agg #[.int .u64 0, .int .i64 0, .int .u64 0], .int .i64 2]) ∧ Below w.heap.size w w' := by
  have hu2 := Tryz.underlying32
  obtain ⟨W0, hW0⟩ : ∃ W0, w.alloc (.cells #[.int .u64 0, .int .i64 0, .int .u64 0] 32) = W0 := ⟨_, rfl⟩
  have B0 := Aside0.mk (show Below w.heap.size w W0 by rw [← hW0]; exact below_alloc (Below.refl _ _) _)
  have K0 := Aside0.mk (show W0.heap[w.heap.size]? = some (.cells #[.int .u64 0, .int .i64 0, .int .u64 0] 32 (0, 0)) by rw [← hW0]; exact heap_alloc_new w _)
  have HW := Aside0.mk hW0
  clear hW0
  have HO := Aside0.mk (ref_Open_short A0 c0 l0 W0 h)
  clear h
  go_enter Tryz.func8, Tryz.ntmps8
  go_wp2_with fail
  rw [HW.out]
  refine HO.out.mono ?_
  rintro e w1 ⟨rfl, hb⟩
  have hR := (hb.block w.heap.size (blk_lt K0.out)).trans K0.out
  have B1 := Aside0.mk (below_step B0.out hb)
  have HR := Aside0.mk hR
  have y0 : w1.cell? ⟨w.heap.size, 0, none⟩ = some (.int .u64 0) := (blk_cell hR 0).trans rfl
  have f0 := blk_frozen hR 0
  have y1 : w1.cell? ⟨w.heap.size, 1, none⟩ = some (.int .i64 0) := (blk_cell hR 1).trans rfl
  have f1 := blk_frozen hR 1
  have y2 : w1.cell? ⟨w.heap.size, 2, none⟩ = some (.int .u64 0) := (blk_cell hR 2).trans rfl
  have f2 := blk_frozen hR 2
  clear hR hb
  go_wp2
  (try simp only [Exit.inBlock, Exit.then])
  refine bodyPost_ret (results_ct rfl _ _ w.heap.size 32 #[.int .u64 0, .int .i64 0, .int .u64 0] (0, 0) _ rfl (set3 (.int .u64 0) (.int .i64 0) (.int .u64 0) HR.out) hu2 rfl (by kernel_rfl)) rfl ?_
  exact ⟨rfl, (below3 (.int .u64 0) (.int .i64 0) (.int .u64 0) B1.out (Nat.le_refl _))⟩
set_option maxHeartbeats 200000 in
set_option maxRecDepth 100000 in
theorem refmark_sum (A0 : Option Addr) (c0 : Nat) (l0 : List Int) (w : World) (hr0 : Kd.C (Kd.int .u8) w A0 l0.length l0) (hc0 : l0.length ≤ c0) (hby : Bytes l0) (hlen : l0.length ≤ 140737488355000) (h4 : 4 ≤ l0.length) (hs : sealed (l0.take (l0.length - 4)) ≠ l0) :
    Calls Tryz.prog 8 #[.slice A0 l0.length c0] w fun e w' => e = .returned (.tuple #[.agg #[.int .u64 0, .int .i64 0, .int .u64 0], .int .i64 7]) ∧ Below w.heap.size w w' := by
  have hu2 := Tryz.underlying32
  obtain ⟨W0, hW0⟩ : ∃ W0, w.alloc (.cells #[.int .u64 0, .int .i64 0, .int .u64 0] 32) = W0 := ⟨_, rfl⟩
  have B0 := Aside0.mk (show Below w.heap.size w W0 by rw [← hW0]; exact below_alloc (Below.refl _ _) _)
  have K0 := Aside0.mk (show W0.heap[w.heap.size]? = some (.cells #[.int .u64 0, .int .i64 0, .int .u64 0] 32 (0, 0)) by rw [← hW0]; exact heap_alloc_new w _)
  have HW := Aside0.mk hW0
  clear hW0
  have HO := Aside0.mk (ref_Open_sum A0 c0 l0 W0 (Kd.C_below hr0 B0.out) hc0 hby hlen h4 hs)
  clear hr0 hc0 hby hlen h4 hs
  go_enter Tryz.func8, Tryz.ntmps8
  go_wp2_with fail
  rw [HW.out]
  refine HO.out.mono ?_
  rintro e w1 ⟨rfl, hb⟩
  have hR := (hb.block w.heap.size (blk_lt K0.out)).trans K0.out
  have B1 := Aside0.mk (below_step B0.out hb)
  have HR := Aside0.mk hR
  have y0 : w1.cell? ⟨w.heap.size, 0, none⟩ = some (.int .u64 0) := (blk_cell hR 0).trans rfl
  have f0 := blk_frozen hR 0
  have y1 : w1.cell? ⟨w.heap.size, 1, none⟩ = some (.int .i64 0) := (blk_cell hR 1).trans rfl
  have f1 := blk_frozen hR 1
  have y2 : w1.cell? ⟨w.heap.size, 2, none⟩ = some (.int .u64 0) := (blk_cell hR 2).trans rfl
  have f2 := blk_frozen hR 2
  clear hR hb
  go_wp2
  (try simp only [Exit.inBlock, Exit.then])
  refine bodyPost_ret (results_ct rfl _ _ w.heap.size 32 #[.int .u64 0, .int .i64 0, .int .u64 0] (0, 0) _ rfl (set3 (.int .u64 0) (.int .i64 0) (.int .u64 0) HR.out) hu2 rfl (by kernel_rfl)) rfl ?_
  exact ⟨rfl, (below3 (.int .u64 0) (.int .i64 0) (.int .u64 0) B1.out (Nat.le_refl _))⟩
set_option maxHeartbeats 200000 in
set_option maxRecDepth 100000 in
theorem refmark_other (A0 : Option Addr) (c0 : Nat) (l0 : List Int) (w : World) (hr0 : Kd.C (Kd.int .u8) w A0 l0.length l0) (hc0 : l0.length ≤ c0) (hby : Bytes l0) (hlen : l0.length ≤ 140737488355000) (h4 : 4 ≤ l0.length) (hs : sealed (l0.take (l0.length - 4)) = l0) (hl : l0.length ≠ 28) :
    Calls Tryz.prog 8 #[.slice A0 l0.length c0] w fun e w' => e = .returned (.tuple #[.agg #[.int .u64 0, .int .i64 0, .int .u64 0], .int .i64 2]) ∧ Below w.heap.size w w' := by
  have hu2 := Tryz.underlying32
  obtain ⟨W0, hW0⟩ : ∃ W0, w.alloc (.cells #[.int .u64 0, .int .i64 0, .int .u64 0] 32) = W0 := ⟨_, rfl⟩
  have B0 := Aside0.mk (show Below w.heap.size w W0 by rw [← hW0]; exact below_alloc (Below.refl _ _) _)
  have K0 := Aside0.mk (show W0.heap[w.heap.size]? = some (.cells #[.int .u64 0, .int .i64 0, .int .u64 0] 32 (0, 0)) by rw [← hW0]; exact heap_alloc_new w _)
  have HW := Aside0.mk hW0
  clear hW0
  have HO := Aside0.mk (ref_Open_ok A0 c0 l0 W0 (Kd.C_below hr0 B0.out) hc0 hby hlen h4 hs)
  have htl : (l0.take (l0.length - 4)).length = l0.length - 4 := by rw [List.length_take]; omega
  have HT := Aside0.mk (fun W => stood_no A0 c0 (l0.take (l0.length - 4)) W (by omega) (by omega))
  rw [htl] at HT
  clear htl hr0 hc0 hby hlen hs hl
  go_enter Tryz.func8, Tryz.ntmps8
  go_wp2_with fail
  rw [HW.out]
  refine HO.out.mono ?_
  rintro e w1 ⟨rfl, hb⟩
  have K1 := Aside0.mk ((hb.block w.heap.size (blk_lt K0.out)).trans K0.out)
  have B1 := Aside0.mk (below_step B0.out hb)
  clear hb
  go_wp2_with fail
  refine (HT.out _).mono ?_
  rintro e w2 ⟨rfl, hb⟩
  have hR := (hb.block w.heap.size (blk_lt K1.out)).trans K1.out
  have B2 := Aside0.mk (below_step B1.out hb)
  have hlt : w.heap.size < w2.heap.size := blk_lt hR
  have hne : ¬ w2.heap.size = w.heap.size := fun e => Nat.ne_of_lt hlt e.symm
  have hne' : w.heap.size ≠ w2.heap.size := Nat.ne_of_lt hlt
  have HR := Aside0.mk ((Below.heap_alloc _ (.cells #[.int .u64 0, .int .i64 0, .int .u64 0] 32) _ (by simpa using hlt)).trans (set3 (.int .u64 0) (.int .i64 0) (.int .u64 0) hR))
  have B3 := Aside0.mk (below_alloc (below3 (.int .u64 0) (.int .i64 0) (.int .u64 0) B2.out (Nat.le_refl _)) (.cells #[.int .u64 0, .int .i64 0, .int .u64 0] 32))
  have y0 : w2.cell? ⟨w.heap.size, 0, none⟩ = some (.int .u64 0) := (blk_cell hR 0).trans rfl
  have f0 := blk_frozen hR 0
  have y1 : w2.cell? ⟨w.heap.size, 1, none⟩ = some (.int .i64 0) := (blk_cell hR 1).trans rfl
  have f1 := blk_frozen hR 1
  have y2 : w2.cell? ⟨w.heap.size, 2, none⟩ = some (.int .u64 0) := (blk_cell hR 2).trans rfl
  have f2 := blk_frozen hR 2
  clear hR hb
  go_wp2
  (try simp only [Exit.inBlock, Exit.then])
  refine bodyPost_ret (results_ct rfl _ _ w.heap.size 32 #[.int .u64 0, .int .i64 0, .int .u64 0] (0, 0) _ rfl HR.out hu2 rfl (by kernel_rfl)) rfl ?_
  exact ⟨rfl, B3.out⟩
set_option maxHeartbeats 800000 in
set_option maxRecDepth 100000 in
theorem refmark_yes (A0 : Option Addr) (c0 : Nat) (l0 : List Int) (w : World) (hr0 : Kd.C (Kd.int .u8) w A0 l0.length l0) (hc0 : l0.length ≤ c0) (hby : Bytes l0) (hlen : l0.length ≤ 140737488355000) (h4 : 4 ≤ l0.length) (hs : sealed (l0.take (l0.length - 4)) = l0) (hl : l0.length = 28) :
    Calls Tryz.prog 8 #[.slice A0 l0.length c0] w fun e w' => ∃ v0 v1 v2 : Nat, v0 = deN (((l0.take (l0.length - 4)).drop 0).take 8) ∧ v1 = deN (((l0.take (l0.length - 4)).drop 8).take 8) ∧ v2 = deN (((l0.take (l0.length - 4)).drop 16).take 8) ∧ e = .returned (if fairB (v0 : Nat) (wrap64 (v1 : Nat)) (v2 : Nat) = true then .tuple #[.agg #[.int .u64 (v0 : Nat), .int .i64 (wrap64 (v1 : Nat)), .int .u64 (v2 : Nat)], .int .i64 0] else .tuple #[.agg #[.int .u64 0, .int .i64 0, .int .u64 0], .int .i64 2]) ∧ Below w.heap.size w w' := by
  have hu2 := Tryz.underlying32
  obtain ⟨W0, hW0⟩ : ∃ W0, w.alloc (.cells #[.int .u64 0, .int .i64 0, .int .u64 0] 32) = W0 := ⟨_, rfl⟩
  have B0 := Aside0.mk (show Below w.heap.size w W0 by rw [← hW0]; exact below_alloc (Below.refl _ _) _)
  have K0 := Aside0.mk (show W0.heap[w.heap.size]? = some (.cells #[.int .u64 0, .int .i64 0, .int .u64 0] 32 (0, 0)) by rw [← hW0]; exact heap_alloc_new w _)
  have HW := Aside0.mk hW0
  clear hW0
  have HO := Aside0.mk (ref_Open_ok A0 c0 l0 W0 (Kd.C_below hr0 B0.out) hc0 hby hlen h4 hs)
  have htl : (l0.take (l0.length - 4)).length = l0.length - 4 := by rw [List.length_take]; omega
  have HT := Aside0.mk (fun W (hb : Below w.heap.size w W) => stood_yes A0 c0 (l0.take (l0.length - 4)) W (Kd.C_take (m := l0.length - 4) (Kd.C_below hr0 hb) (by omega)) (hby.take _) (by omega))
  rw [htl] at HT
  clear htl hr0 hc0 hby hlen hs hl
  go_enter Tryz.func8, Tryz.ntmps8
  go_wp2_with fail
  rw [HW.out]
  refine HO.out.mono ?_
  rintro e w1 ⟨rfl, hb⟩
  have K1 := Aside0.mk ((hb.block w.heap.size (blk_lt K0.out)).trans K0.out)
  have B1 := Aside0.mk (below_step B0.out hb)
  clear hb
  go_wp2_with fail
  refine (HT.out _ B1.out).mono ?_
  rintro e w2 ⟨v0, v1, v2, ev0, ev1, ev2, rfl, hb⟩
  have E := Aside0.mk (And.intro ev0 (And.intro ev1 (ev2)))
  have hR := (hb.block w.heap.size (blk_lt K1.out)).trans K1.out
  have B2 := Aside0.mk (below_step B1.out hb)
  have hlt : w.heap.size < w2.heap.size := blk_lt hR
  have hne : ¬ w2.heap.size = w.heap.size := fun e => Nat.ne_of_lt hlt e.symm
  have hne' : w.heap.size ≠ w2.heap.size := Nat.ne_of_lt hlt
  have HR := Aside0.mk hR
  have y0 : w2.cell? ⟨w.heap.size, 0, none⟩ = some (.int .u64 0) := (blk_cell hR 0).trans rfl
  have f0 := blk_frozen hR 0
  have y1 : w2.cell? ⟨w.heap.size, 1, none⟩ = some (.int .i64 0) := (blk_cell hR 1).trans rfl
  have f1 := blk_frozen hR 1
  have y2 : w2.cell? ⟨w.heap.size, 2, none⟩ = some (.int .u64 0) := (blk_cell hR 2).trans rfl
  have f2 := blk_frozen hR 2
  clear hR hb ev0 ev1 ev2
  obtain ⟨may, hmay⟩ : ∃ m, fairB (v0 : Nat) (wrap64 (v1 : Nat)) (v2 : Nat) = m := ⟨_, rfl⟩
  rw [hmay]
  have HMAY := Aside0.mk hmay
  clear hmay
  cases may
  case true =>
    go_wp2
    (try simp only [Exit.inBlock, Exit.then])
    refine bodyPost_ret (results_ct rfl _ _ w.heap.size 32 #[.int .u64 (v0 : Nat), .int .i64 (wrap64 (v1 : Nat)), .int .u64 (v2 : Nat)] (0, 0) _ rfl ((Below.heap_alloc _ (.cells #[.int .u64 (v0 : Nat), .int .i64 (wrap64 (v1 : Nat)), .int .u64 (v2 : Nat)] 32) _ (by simpa using hlt)).trans (set3 (.int .u64 (v0 : Nat)) (.int .i64 (wrap64 (v1 : Nat))) (.int .u64 (v2 : Nat)) HR.out)) hu2 rfl (by kernel_rfl)) rfl ?_
    exact ⟨v0, v1, v2, E.out.1, E.out.2.1, E.out.2.2, by rw [HMAY.out, if_pos rfl]; rfl, below_alloc (below3 (.int .u64 (v0 : Nat)) (.int .i64 (wrap64 (v1 : Nat))) (.int .u64 (v2 : Nat)) B2.out (Nat.le_refl _)) _⟩
  case false =>
    go_wp2
    (try simp only [Exit.inBlock, Exit.then])
    refine bodyPost_ret (results_ct rfl _ _ w.heap.size 32 #[.int .u64 0, .int .i64 0, .int .u64 0] (0, 0) _ rfl ((Below.heap_alloc _ (.cells #[.int .u64 (v0 : Nat), .int .i64 (wrap64 (v1 : Nat)), .int .u64 (v2 : Nat)] 32) _ (by simpa using hlt)).trans (set3 (.int .u64 0) (.int .i64 0) (.int .u64 0) HR.out)) hu2 rfl (by kernel_rfl)) rfl ?_
    exact ⟨v0, v1, v2, E.out.1, E.out.2.1, E.out.2.2, by rw [HMAY.out, if_neg (by decide)]; rfl, below_alloc (below3 (.int .u64 0) (.int .i64 0) (.int .u64 0) B2.out (Nat.le_refl _)) _⟩
end Go.Proofs.YtbfmjbkhnbpbgaaGreatDoor.H

set_option linter.unusedVariables false
set_option linter.unusedSimpArgs false
namespace Go.Proofs.YtbfmjbkhnbpbgaaGreatDoor.H
open Go.RowKit Go.Proofs.YtbfmjbkhnbpbgaaGreatDoorW.PrintWords Go.Proofs.YtbfmjbkhnbpbgaaGreatDoorW.PrintLast Go.Proofs.YtbfmjbkhnbpbgaaGreatDoorW.PrintMore
open Go.Proofs.YtbfmjbkhnbpbgaaGreatDoor.PF Go.Proofs.YtbfmjbkhnbpbgaaGreatDoor.Pl
/-- An error by its number; 0: none. -/
def errN (c : Int) : Value := if c = 0 then .nilIface else errV c
theorem errN_two : errN 2 = errV 2 := rfl
theorem errN_seven : errN 7 = errV 7 := rfl
theorem errN_zero : errN 0 = .nilIface := rfl
theorem get_any (A0 : Option Addr) (c0 : Nat) (l0 : List Int) (hc0 : l0.length ≤ c0) (hby : Bytes l0) (hlen : l0.length ≤ 140737488355000) :
    ∃ a b c d e f : Int, ∃ bad : Int, (bad = 0 ∨ bad = 2 ∨ bad = 7) ∧ ∀ w, Kd.C (Kd.int .u8) w A0 l0.length l0 →
      Calls Tryz.prog 5 #[.slice A0 l0.length c0] w (fun e' w' => e' = .returned (.tuple #[.agg #[.int .u64 a, .int .i64 b, .int .i64 c, .int .i64 d, .int .i64 e, .int .i64 f], errN bad]) ∧ Below w.heap.size w w') ∧
      Calls Tryz.prog 7 #[.slice A0 l0.length c0] w (fun e' w' => e' = .returned (.tuple #[.agg #[.int .u64 a, .int .i64 b, .int .i64 c, .int .i64 d, .int .i64 e, .int .i64 f], .int .i64 bad]) ∧ Below w.heap.size w w') := by
  by_cases h4 : l0.length < 4
  · exact ⟨0, 0, 0, 0, 0, 0, 2, by decide, fun w hr => ⟨get_short A0 c0 l0 w h4, refmeta_short A0 c0 l0 w h4⟩⟩
  by_cases hs : sealed (l0.take (l0.length - 4)) = l0
  case neg => exact ⟨0, 0, 0, 0, 0, 0, 7, by decide, fun w hr => ⟨get_sum A0 c0 l0 w hr hc0 hby hlen (by omega) hs, refmeta_sum A0 c0 l0 w hr hc0 hby hlen (by omega) hs⟩⟩
  have htl : (l0.take (l0.length - 4)).length = l0.length - 4 := by rw [List.length_take]; omega
  by_cases hl : l0.length = 35
  case neg =>
    refine ⟨0, 0, 0, 0, 0, 0, 2, by decide, fun w hr => ⟨(get_read A0 c0 l0 _ w hr hc0 (hby.take _) hlen hs.symm).mono ?_, refmeta_other A0 c0 l0 w hr hc0 hby hlen (by omega) hs hl⟩⟩
    rintro e' w' ⟨v0, v1, v2, v3, v4, v5, i, b, hrd, _, rfl, hb⟩
    have := get1_other (by omega) hrd
    rw [if_neg (fun h => this h.2)]
    exact ⟨rfl, hb⟩
  have h31 : (l0.take (l0.length - 4)).length = 31 := by omega
  cases hm : mayB ((deN (((l0.take (l0.length - 4)).drop 0).take 8) : Nat) : Int) (wrap64 ((deN (((l0.take (l0.length - 4)).drop 24).take 1) : Nat) : Int)) (wrap64 ((deN (((l0.take (l0.length - 4)).drop 8).take 8) : Nat) : Int)) (wrap64 ((deN (((l0.take (l0.length - 4)).drop 16).take 8) : Nat) : Int)) (wrap64 ((deN (((l0.take (l0.length - 4)).drop 25).take 2) : Nat) : Int)) (wrap64 ((deN (((l0.take (l0.length - 4)).drop 27).take 4) : Nat) : Int))
  · refine ⟨0, 0, 0, 0, 0, 0, 2, by decide, fun w hr => ⟨(get_read A0 c0 l0 _ w hr hc0 (hby.take _) hlen hs.symm).mono ?_, (refmeta_yes A0 c0 l0 w hr hc0 hby hlen (by omega) hs hl).mono ?_⟩⟩
    · rintro e' w' ⟨v0, v1, v2, v3, v4, v5, i, b, hrd, _, rfl, hb⟩
      obtain ⟨rfl, rfl, rfl, rfl, rfl, rfl, rfl, rfl⟩ := get1_31 h31 hrd
      rw [if_neg (fun h => by rw [hm] at h; exact absurd h.1 (by decide))]
      exact ⟨rfl, hb⟩
    · rintro e' w' ⟨v0, v1, v2, v3, v4, v5, rfl, rfl, rfl, rfl, rfl, rfl, rfl, hb⟩
      rw [if_neg (fun h => by rw [hm] at h; exact absurd h (by decide))]
      exact ⟨rfl, hb⟩
  · refine ⟨((deN (((l0.take (l0.length - 4)).drop 0).take 8) : Nat) : Int), wrap64 ((deN (((l0.take (l0.length - 4)).drop 24).take 1) : Nat) : Int), wrap64 ((deN (((l0.take (l0.length - 4)).drop 8).take 8) : Nat) : Int), wrap64 ((deN (((l0.take (l0.length - 4)).drop 16).take 8) : Nat) : Int), wrap64 ((deN (((l0.take (l0.length - 4)).drop 25).take 2) : Nat) : Int), wrap64 ((deN (((l0.take (l0.length - 4)).drop 27).take 4) : Nat) : Int), 0, by decide, fun w hr => ⟨(get_read A0 c0 l0 _ w hr hc0 (hby.take _) hlen hs.symm).mono ?_, (refmeta_yes A0 c0 l0 w hr hc0 hby hlen (by omega) hs hl).mono ?_⟩⟩
    · rintro e' w' ⟨v0, v1, v2, v3, v4, v5, i, b, hrd, _, rfl, hb⟩
      obtain ⟨rfl, rfl, rfl, rfl, rfl, rfl, rfl, rfl⟩ := get1_31 h31 hrd
      rw [if_pos ⟨hm, by decide, by omega⟩]
      exact ⟨rfl, hb⟩
    · rintro e' w' ⟨v0, v1, v2, v3, v4, v5, rfl, rfl, rfl, rfl, rfl, rfl, rfl, hb⟩
      rw [if_pos hm]
      exact ⟨rfl, hb⟩
theorem mark_any (A0 : Option Addr) (c0 : Nat) (l0 : List Int) (hc0 : l0.length ≤ c0) (hby : Bytes l0) (hlen : l0.length ≤ 140737488355000) :
    ∃ a b c : Int, ∃ bad : Int, (bad = 0 ∨ bad = 2 ∨ bad = 7) ∧ ∀ w, Kd.C (Kd.int .u8) w A0 l0.length l0 →
      Calls Tryz.prog 6 #[.slice A0 l0.length c0] w (fun e' w' => e' = .returned (.tuple #[.agg #[.int .u64 a, .int .i64 b, .int .u64 c], errN bad]) ∧ Below w.heap.size w w') ∧
      Calls Tryz.prog 8 #[.slice A0 l0.length c0] w (fun e' w' => e' = .returned (.tuple #[.agg #[.int .u64 a, .int .i64 b, .int .u64 c], .int .i64 bad]) ∧ Below w.heap.size w w') := by
  by_cases h4 : l0.length < 4
  · exact ⟨0, 0, 0, 2, by decide, fun w hr => ⟨mark_short A0 c0 l0 w h4, refmark_short A0 c0 l0 w h4⟩⟩
  by_cases hs : sealed (l0.take (l0.length - 4)) = l0
  case neg => exact ⟨0, 0, 0, 7, by decide, fun w hr => ⟨mark_sum A0 c0 l0 w hr hc0 hby hlen (by omega) hs, refmark_sum A0 c0 l0 w hr hc0 hby hlen (by omega) hs⟩⟩
  have htl : (l0.take (l0.length - 4)).length = l0.length - 4 := by rw [List.length_take]; omega
  by_cases hl : l0.length = 28
  case neg =>
    refine ⟨0, 0, 0, 2, by decide, fun w hr => ⟨(mark_read A0 c0 l0 _ w hr hc0 (hby.take _) hlen hs.symm).mono ?_, refmark_other A0 c0 l0 w hr hc0 hby hlen (by omega) hs hl⟩⟩
    rintro e' w' ⟨v0, v1, v2, i, b, hrd, _, rfl, hb⟩
    have := mark1_other (by omega) hrd
    rw [if_neg (fun h => this h.2)]
    exact ⟨rfl, hb⟩
  have h24 : (l0.take (l0.length - 4)).length = 24 := by omega
  cases hm : fairB ((deN (((l0.take (l0.length - 4)).drop 0).take 8) : Nat) : Int) (wrap64 ((deN (((l0.take (l0.length - 4)).drop 8).take 8) : Nat) : Int)) ((deN (((l0.take (l0.length - 4)).drop 16).take 8) : Nat) : Int)
  · refine ⟨0, 0, 0, 2, by decide, fun w hr => ⟨(mark_read A0 c0 l0 _ w hr hc0 (hby.take _) hlen hs.symm).mono ?_, (refmark_yes A0 c0 l0 w hr hc0 hby hlen (by omega) hs hl).mono ?_⟩⟩
    · rintro e' w' ⟨v0, v1, v2, i, b, hrd, _, rfl, hb⟩
      obtain ⟨rfl, rfl, rfl, rfl, rfl⟩ := mark1_24 h24 hrd
      rw [if_neg (fun h => by rw [hm] at h; exact absurd h.1 (by decide))]
      exact ⟨rfl, hb⟩
    · rintro e' w' ⟨v0, v1, v2, rfl, rfl, rfl, rfl, hb⟩
      rw [if_neg (fun h => by rw [hm] at h; exact absurd h (by decide))]
      exact ⟨rfl, hb⟩
  · refine ⟨((deN (((l0.take (l0.length - 4)).drop 0).take 8) : Nat) : Int), wrap64 ((deN (((l0.take (l0.length - 4)).drop 8).take 8) : Nat) : Int), ((deN (((l0.take (l0.length - 4)).drop 16).take 8) : Nat) : Int), 0, by decide, fun w hr => ⟨(mark_read A0 c0 l0 _ w hr hc0 (hby.take _) hlen hs.symm).mono ?_, (refmark_yes A0 c0 l0 w hr hc0 hby hlen (by omega) hs hl).mono ?_⟩⟩
    · rintro e' w' ⟨v0, v1, v2, i, b, hrd, _, rfl, hb⟩
      obtain ⟨rfl, rfl, rfl, rfl, rfl⟩ := mark1_24 h24 hrd
      rw [if_pos ⟨hm, by decide, by omega⟩]
      exact ⟨rfl, hb⟩
    · rintro e' w' ⟨v0, v1, v2, rfl, rfl, rfl, rfl, hb⟩
      rw [if_pos hm]
      exact ⟨rfl, hb⟩
end Go.Proofs.YtbfmjbkhnbpbgaaGreatDoor.H

set_option linter.unusedVariables false
set_option linter.unusedSimpArgs false
namespace Go.Proofs.YtbfmjbkhnbpbgaaGreatDoor.H
open Go.RowKit Go.Proofs.YtbfmjbkhnbpbgaaGreatDoorW.PrintWords Go.Proofs.YtbfmjbkhnbpbgaaGreatDoorW.PrintLast Go.Proofs.YtbfmjbkhnbpbgaaGreatDoorW.PrintMore
open Go.Proofs.YtbfmjbkhnbpbgaaGreatDoor.PF Go.Proofs.YtbfmjbkhnbpbgaaGreatDoor.Pl
theorem code_nil (w : World) : Calls Tryz.prog 9 #[.nilIface] w fun e w' => e = .returned (.int .i64 0) ∧ w = w' := by
  have hu := Tryz.underlying28
  go_enter Tryz.func9, Tryz.ntmps9
  go_wp2
  go_ret
  exact ⟨rfl, rfl⟩
set_option maxRecDepth 100000 in
theorem code_err (c : Nat) (h1 : 1 ≤ c) (h2 : c ≤ 10) (w : World) : Calls Tryz.prog 9 #[errV c] w fun e w' => e = .returned (.int .i64 c) ∧ w = w' := by
  have hu := Tryz.underlying28
  have hE := fun W k => eql_code W (c : Nat) k
  go_enter Tryz.func9, Tryz.ntmps9
  go_wp2
  go_loop [3] (fun v => ∃ k : Nat, 1 ≤ k ∧ k ≤ c ∧ v = .int .i64 k) (fun v => c - (intOf v).toNat)
  case atStart => exact ⟨1, by omega, by omega, rfl⟩
  case round =>
    obtain ⟨k, hk1, hk2, rfl⟩ := hrel
    by_cases hkc : k = c
    · subst hkc
      have e1 : ((k : Int) == (k : Int)) = true := beq_self_eq_true _
      go_wp2
      go_ret
      exact ⟨rfl, rfl⟩
    · have e1 : ((c : Int) == (k : Int)) = false := beq_eq_false_iff_ne.mpr (by omega)
      go_wp2
      go_round
      case rel => exact ⟨k + 1, by omega, by omega, by go_num⟩
      case measure => simp [intOf]; omega
theorem code_any (bad : Int) (h : bad = 0 ∨ bad = 2 ∨ bad = 7) (w : World) : Calls Tryz.prog 9 #[errN bad] w fun e w' => e = .returned (.int .i64 bad) ∧ w = w' := by
  rcases h with rfl | rfl | rfl
  · exact code_nil w
  · exact code_err 2 (by decide) (by decide) w
  · exact code_err 7 (by decide) (by decide) w
end Go.Proofs.YtbfmjbkhnbpbgaaGreatDoor.H

set_option linter.unusedVariables false
set_option linter.unusedSimpArgs false
namespace Go.Proofs.YtbfmjbkhnbpbgaaGreatDoor.H
open Go.RowKit Go.Proofs.YtbfmjbkhnbpbgaaGreatDoorW.PrintWords Go.Proofs.YtbfmjbkhnbpbgaaGreatDoorW.PrintLast Go.Proofs.YtbfmjbkhnbpbgaaGreatDoorW.PrintMore
open Go.Proofs.YtbfmjbkhnbpbgaaGreatDoor.PF Go.Proofs.YtbfmjbkhnbpbgaaGreatDoor.Pl
theorem eql_meta (a b c d e f : Int) (w : World) : (binOp .eql 26 (.agg #[.int .u64 a, .int .i64 b, .int .i64 c, .int .i64 d, .int .i64 e, .int .i64 f]) (.agg #[.int .u64 a, .int .i64 b, .int .i64 c, .int .i64 d, .int .i64 e, .int .i64 f])).run Tryz.prog w = .ok (.bool true) w := by
  have h : (Op.equalIn 10000 26 (.agg #[.int .u64 a, .int .i64 b, .int .i64 c, .int .i64 d, .int .i64 e, .int .i64 f]) (.agg #[.int .u64 a, .int .i64 b, .int .i64 c, .int .i64 d, .int .i64 e, .int .i64 f])).run Tryz.prog w = .ok ((a == a) && ((b == b) && ((c == c) && ((d == d) && ((e == e) && (f == f)))))) w := by
    refine eqA_of (d := 9999) Tryz.underlying26 (by kernel_rfl) ?_
    refine eqf_cons (by rfl) (by go_simp; rfl) (by go_simp; rfl) (by go_simp) ?_
    refine eqf_cons (by rfl) (by go_simp; rfl) (by go_simp; rfl) (by go_simp) ?_
    refine eqf_cons (by rfl) (by go_simp; rfl) (by go_simp; rfl) (by go_simp) ?_
    refine eqf_cons (by rfl) (by go_simp; rfl) (by go_simp; rfl) (by go_simp) ?_
    refine eqf_cons (by rfl) (by go_simp; rfl) (by go_simp; rfl) (by go_simp) ?_
    exact eqf_last (by rfl) (by go_simp; rfl) (by go_simp; rfl) (by go_simp)
  rw [run_eql_struct w, h]
  simp [Result.andThen]
theorem eql_mark (a b c : Int) (w : World) : (binOp .eql 32 (.agg #[.int .u64 a, .int .i64 b, .int .u64 c]) (.agg #[.int .u64 a, .int .i64 b, .int .u64 c])).run Tryz.prog w = .ok (.bool true) w := by
  have h : (Op.equalIn 10000 32 (.agg #[.int .u64 a, .int .i64 b, .int .u64 c]) (.agg #[.int .u64 a, .int .i64 b, .int .u64 c])).run Tryz.prog w = .ok ((a == a) && ((b == b) && (c == c))) w := by
    refine eqA_of (d := 9999) Tryz.underlying32 (by kernel_rfl) ?_
    refine eqf_cons (by rfl) (by go_simp; rfl) (by go_simp; rfl) (by go_simp) ?_
    refine eqf_cons (by rfl) (by go_simp; rfl) (by go_simp; rfl) (by go_simp) ?_
    exact eqf_last (by rfl) (by go_simp; rfl) (by go_simp; rfl) (by go_simp)
  rw [run_eql_struct w, h]
  simp [Result.andThen]
set_option maxHeartbeats 1600000 in
set_option maxRecDepth 100000 in
theorem gets_small (A0 : Option Addr) (c0 : Nat) (l0 : List Int) (w : World) (hg : Gl w) (hr0 : Kd.C (Kd.int .u8) w A0 l0.length l0) (hc0 : l0.length ≤ c0) (hby : Bytes l0) (hlen : l0.length ≤ 5000) :
    Calls Tryz.prog 3 #[.slice A0 l0.length c0] w fun e' w' => e' = .returned (.bool true) ∧ Below w.heap.size w w' := by
  obtain ⟨a, b, c, d, e, f, bad, hbad, hM0⟩ := get_any A0 c0 l0 hc0 hby (by omega)
  obtain ⟨x, y, z, odd, hodd, hK0⟩ := mark_any A0 c0 l0 hc0 hby (by omega)
  have HCb := Aside0.mk (fun W => code_any bad hbad W)
  have HCo := Aside0.mk (fun W => code_any odd hodd W)
  obtain ⟨eb, heb⟩ : ∃ v, errN bad = v := ⟨_, rfl⟩
  obtain ⟨eo, heo⟩ : ∃ v, errN odd = v := ⟨_, rfl⟩
  rw [heb] at hM0 HCb
  rw [heo] at hK0 HCo
  clear heb heo hbad hodd
  have HM := Aside0.mk (fun W (hb : Below w.heap.size w W) => hM0 W (Kd.C_below hr0 hb))
  have HK := Aside0.mk (fun W (hb : Below w.heap.size w W) => hK0 W (Kd.C_below hr0 hb))
  clear hM0 hK0
  have HU := Aside0.mk (up_true w hg)
  have hnl : ¬ (5000 < l0.length) := by omega
  have q1 := fun W => eql_meta a b c d e f W
  have q2 := fun W => eql_mark x y z W
  have hu24 := Tryz.underlying26
  have hu25 := Tryz.underlying32
  have hu30 := Tryz.underlying28
  clear hg hr0 hc0 hby
  go_enter Tryz.func3, Tryz.ntmps3
  go_wp2_with fail
  refine HU.out.mono ?_
  rintro e' w1 ⟨rfl, hb⟩
  have B1 := Aside0.mk hb
  clear hb HU
  go_wp2_with fail
  refine (HM.out _ B1.out).1.mono ?_
  rintro e' w2 ⟨rfl, hb⟩
  obtain ⟨W2, hW2⟩ : ∃ W, w2.alloc (.cells #[.int .u64 a, .int .i64 b, .int .i64 c, .int .i64 d, .int .i64 e, .int .i64 f] 26) = W := ⟨_, rfl⟩
  have B2' := below_step B1.out hb
  have bb := below_alloc (Below.refl w2.heap.size w2) (.cells #[.int .u64 a, .int .i64 b, .int .i64 c, .int .i64 d, .int .i64 e, .int .i64 f] 26)
  rw [hW2] at bb
  have B2 := Aside0.mk (below_step B2' bb)
  have KM2 := Aside0.mk (show W2.heap[w2.heap.size]? = some (Obj.cells #[.int .u64 a, .int .i64 b, .int .i64 c, .int .i64 d, .int .i64 e, .int .i64 f] 26 (0, 0)) by rw [← hW2]; exact heap_alloc_new w2 _)
  have HW2 := Aside0.mk hW2
  clear hb bb hW2 B2'
  go_wp2_with fail
  rw [HW2.out]
  refine (HK.out _ B2.out).1.mono ?_
  rintro e' w3 ⟨rfl, hb⟩
  obtain ⟨W3, hW3⟩ : ∃ W, w3.alloc (.cells #[.int .u64 x, .int .i64 y, .int .u64 z] 32) = W := ⟨_, rfl⟩
  have B3' := below_step B2.out hb
  have bb := below_alloc (Below.refl w3.heap.size w3) (.cells #[.int .u64 x, .int .i64 y, .int .u64 z] 32)
  rw [hW3] at bb
  have B3 := Aside0.mk (below_step B3' bb)
  have KM3 := Aside0.mk ((bb.block _ (blk_lt ((hb.block _ (blk_lt KM2.out)).trans KM2.out))).trans ((hb.block _ (blk_lt KM2.out)).trans KM2.out))
  have KK3 := Aside0.mk (show W3.heap[w3.heap.size]? = some (Obj.cells #[.int .u64 x, .int .i64 y, .int .u64 z] 32 (0, 0)) by rw [← hW3]; exact heap_alloc_new w3 _)
  have HW3 := Aside0.mk hW3
  clear hb bb hW3 B3'
  go_wp2_with fail
  rw [HW3.out]
  refine (HM.out _ B3.out).2.mono ?_
  rintro e' w4 ⟨rfl, hb⟩
  obtain ⟨W4, hW4⟩ : ∃ W, w4.alloc (.cells #[.int .u64 a, .int .i64 b, .int .i64 c, .int .i64 d, .int .i64 e, .int .i64 f] 26) = W := ⟨_, rfl⟩
  have B4' := below_step B3.out hb
  have bb := below_alloc (Below.refl w4.heap.size w4) (.cells #[.int .u64 a, .int .i64 b, .int .i64 c, .int .i64 d, .int .i64 e, .int .i64 f] 26)
  rw [hW4] at bb
  have B4 := Aside0.mk (below_step B4' bb)
  have KM4 := Aside0.mk ((bb.block _ (blk_lt ((hb.block _ (blk_lt KM3.out)).trans KM3.out))).trans ((hb.block _ (blk_lt KM3.out)).trans KM3.out))
  have KK4 := Aside0.mk ((bb.block _ (blk_lt ((hb.block _ (blk_lt KK3.out)).trans KK3.out))).trans ((hb.block _ (blk_lt KK3.out)).trans KK3.out))
  have KN4 := Aside0.mk (show W4.heap[w4.heap.size]? = some (Obj.cells #[.int .u64 a, .int .i64 b, .int .i64 c, .int .i64 d, .int .i64 e, .int .i64 f] 26 (0, 0)) by rw [← hW4]; exact heap_alloc_new w4 _)
  have HW4 := Aside0.mk hW4
  clear hb bb hW4 B4'
  go_wp2_with fail
  rw [HW4.out]
  refine (HK.out _ B4.out).2.mono ?_
  rintro e' w5 ⟨rfl, hb⟩
  obtain ⟨W5, hW5⟩ : ∃ W, w5.alloc (.cells #[.int .u64 x, .int .i64 y, .int .u64 z] 32) = W := ⟨_, rfl⟩
  have B5' := below_step B4.out hb
  have bb := below_alloc (Below.refl w5.heap.size w5) (.cells #[.int .u64 x, .int .i64 y, .int .u64 z] 32)
  rw [hW5] at bb
  have B5 := Aside0.mk (below_step B5' bb)
  have KM5 := Aside0.mk ((bb.block _ (blk_lt ((hb.block _ (blk_lt KM4.out)).trans KM4.out))).trans ((hb.block _ (blk_lt KM4.out)).trans KM4.out))
  have KK5 := Aside0.mk ((bb.block _ (blk_lt ((hb.block _ (blk_lt KK4.out)).trans KK4.out))).trans ((hb.block _ (blk_lt KK4.out)).trans KK4.out))
  have KN5 := Aside0.mk ((bb.block _ (blk_lt ((hb.block _ (blk_lt KN4.out)).trans KN4.out))).trans ((hb.block _ (blk_lt KN4.out)).trans KN4.out))
  have KL5 := Aside0.mk (show W5.heap[w5.heap.size]? = some (Obj.cells #[.int .u64 x, .int .i64 y, .int .u64 z] 32 (0, 0)) by rw [← hW5]; exact heap_alloc_new w5 _)
  have HW5 := Aside0.mk hW5
  clear hb bb hW5 B5'
  have zM0 : (w5.alloc (.cells #[.int .u64 x, .int .i64 y, .int .u64 z] 32)).cell? ⟨w2.heap.size, 0, none⟩ = some (.int .u64 a) := by rw [HW5.out]; exact (blk_cell KM5.out 0).trans rfl
  have zM1 : (w5.alloc (.cells #[.int .u64 x, .int .i64 y, .int .u64 z] 32)).cell? ⟨w2.heap.size, 1, none⟩ = some (.int .i64 b) := by rw [HW5.out]; exact (blk_cell KM5.out 1).trans rfl
  have zM2 : (w5.alloc (.cells #[.int .u64 x, .int .i64 y, .int .u64 z] 32)).cell? ⟨w2.heap.size, 2, none⟩ = some (.int .i64 c) := by rw [HW5.out]; exact (blk_cell KM5.out 2).trans rfl
  have zM3 : (w5.alloc (.cells #[.int .u64 x, .int .i64 y, .int .u64 z] 32)).cell? ⟨w2.heap.size, 3, none⟩ = some (.int .i64 d) := by rw [HW5.out]; exact (blk_cell KM5.out 3).trans rfl
  have zM4 : (w5.alloc (.cells #[.int .u64 x, .int .i64 y, .int .u64 z] 32)).cell? ⟨w2.heap.size, 4, none⟩ = some (.int .i64 e) := by rw [HW5.out]; exact (blk_cell KM5.out 4).trans rfl
  have zM5 : (w5.alloc (.cells #[.int .u64 x, .int .i64 y, .int .u64 z] 32)).cell? ⟨w2.heap.size, 5, none⟩ = some (.int .i64 f) := by rw [HW5.out]; exact (blk_cell KM5.out 5).trans rfl
  have zK0 : (w5.alloc (.cells #[.int .u64 x, .int .i64 y, .int .u64 z] 32)).cell? ⟨w3.heap.size, 0, none⟩ = some (.int .u64 x) := by rw [HW5.out]; exact (blk_cell KK5.out 0).trans rfl
  have zK1 : (w5.alloc (.cells #[.int .u64 x, .int .i64 y, .int .u64 z] 32)).cell? ⟨w3.heap.size, 1, none⟩ = some (.int .i64 y) := by rw [HW5.out]; exact (blk_cell KK5.out 1).trans rfl
  have zK2 : (w5.alloc (.cells #[.int .u64 x, .int .i64 y, .int .u64 z] 32)).cell? ⟨w3.heap.size, 2, none⟩ = some (.int .u64 z) := by rw [HW5.out]; exact (blk_cell KK5.out 2).trans rfl
  have zN0 : (w5.alloc (.cells #[.int .u64 x, .int .i64 y, .int .u64 z] 32)).cell? ⟨w4.heap.size, 0, none⟩ = some (.int .u64 a) := by rw [HW5.out]; exact (blk_cell KN5.out 0).trans rfl
  have zN1 : (w5.alloc (.cells #[.int .u64 x, .int .i64 y, .int .u64 z] 32)).cell? ⟨w4.heap.size, 1, none⟩ = some (.int .i64 b) := by rw [HW5.out]; exact (blk_cell KN5.out 1).trans rfl
  have zN2 : (w5.alloc (.cells #[.int .u64 x, .int .i64 y, .int .u64 z] 32)).cell? ⟨w4.heap.size, 2, none⟩ = some (.int .i64 c) := by rw [HW5.out]; exact (blk_cell KN5.out 2).trans rfl
  have zN3 : (w5.alloc (.cells #[.int .u64 x, .int .i64 y, .int .u64 z] 32)).cell? ⟨w4.heap.size, 3, none⟩ = some (.int .i64 d) := by rw [HW5.out]; exact (blk_cell KN5.out 3).trans rfl
  have zN4 : (w5.alloc (.cells #[.int .u64 x, .int .i64 y, .int .u64 z] 32)).cell? ⟨w4.heap.size, 4, none⟩ = some (.int .i64 e) := by rw [HW5.out]; exact (blk_cell KN5.out 4).trans rfl
  have zN5 : (w5.alloc (.cells #[.int .u64 x, .int .i64 y, .int .u64 z] 32)).cell? ⟨w4.heap.size, 5, none⟩ = some (.int .i64 f) := by rw [HW5.out]; exact (blk_cell KN5.out 5).trans rfl
  have zL0 : (w5.alloc (.cells #[.int .u64 x, .int .i64 y, .int .u64 z] 32)).cell? ⟨w5.heap.size, 0, none⟩ = some (.int .u64 x) := by rw [HW5.out]; exact (blk_cell KL5.out 0).trans rfl
  have zL1 : (w5.alloc (.cells #[.int .u64 x, .int .i64 y, .int .u64 z] 32)).cell? ⟨w5.heap.size, 1, none⟩ = some (.int .i64 y) := by rw [HW5.out]; exact (blk_cell KL5.out 1).trans rfl
  have zL2 : (w5.alloc (.cells #[.int .u64 x, .int .i64 y, .int .u64 z] 32)).cell? ⟨w5.heap.size, 2, none⟩ = some (.int .u64 z) := by rw [HW5.out]; exact (blk_cell KL5.out 2).trans rfl
  go_wp2_with ((with_reducible refine (HCb.out _).mono ?_); rintro e' w' ⟨rfl, rfl⟩)
  refine (HCo.out _).mono ?_
  rintro e' w' ⟨rfl, rfl⟩
  go_wp2
  go_ret
  exact ⟨rfl, HW5.out ▸ B5.out⟩
set_option maxHeartbeats 400000 in
set_option maxRecDepth 100000 in
theorem gets_large (A0 : Option Addr) (c0 n : Nat) (w : World) (hg : Gl w) (hlen : 5000 < n) :
    Calls Tryz.prog 3 #[.slice A0 n c0] w fun e' w' => e' = .returned (.bool true) ∧ Below w.heap.size w w' := by
  have HU := Aside0.mk (up_true w hg)
  clear hg
  go_enter Tryz.func3, Tryz.ntmps3
  go_wp2_with fail
  refine HU.out.mono ?_
  rintro e' w1 ⟨rfl, hb⟩
  go_wp2
  go_ret
  exact ⟨rfl, hb⟩
end Go.Proofs.YtbfmjbkhnbpbgaaGreatDoor.H

