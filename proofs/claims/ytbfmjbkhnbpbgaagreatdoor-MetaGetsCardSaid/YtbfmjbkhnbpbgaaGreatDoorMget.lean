/- The contracts of tankard/meta.Get. -/
import Derived.Test.YtbfmjbkhnbpbgaaGreatDoorMopen
set_option linter.unusedVariables false
set_option linter.unusedSimpArgs false
namespace Go.Proofs.YtbfmjbkhnbpbgaaGreatDoor.H
open Go.RowKit Go.Proofs.YtbfmjbkhnbpbgaaGreatDoorW.PrintWords Go.Proofs.YtbfmjbkhnbpbgaaGreatDoorW.PrintLast Go.Proofs.YtbfmjbkhnbpbgaaGreatDoorW.PrintMore
open Go.Proofs.YtbfmjbkhnbpbgaaGreatDoor.PF Go.Proofs.YtbfmjbkhnbpbgaaGreatDoor.Pl
theorem two_cells (w : World) (cs ds : Array Value) (t u : TypeId) {W : World} (hb : Below ((w.alloc (.cells cs t)).alloc (.cells ds u)).heap.size ((w.alloc (.cells cs t)).alloc (.cells ds u)) W) :
    W.heap[w.heap.size]? = some (.cells cs t (0, 0)) ∧ W.heap[w.heap.size + 1]? = some (.cells ds u (0, 0)) := by
  constructor
  · rw [hb.block _ (by simp only [World.size_alloc]; omega), Below.heap_alloc _ _ _ (by simp only [World.size_alloc]; omega)]; exact heap_alloc_new w _
  · rw [hb.block _ (by simp)]
    have := heap_alloc_new (w.alloc (.cells cs t)) (.cells ds u)
    simpa using this
theorem set6 {W : World} {g : Nat} {t : TypeId} {a0 a1 a2 a3 a4 a5 : Value} (b0 b1 b2 b3 b4 b5 : Value) (h : W.heap[g]? = some (.cells #[a0, a1, a2, a3, a4, a5] t (0, 0))) :
    ((((((W.setCell ⟨g, 0, none⟩ b0).setCell ⟨g, 1, none⟩ b1).setCell ⟨g, 2, none⟩ b2).setCell ⟨g, 3, none⟩ b3).setCell ⟨g, 4, none⟩ b4).setCell ⟨g, 5, none⟩ b5).heap[g]? = some (.cells #[b0, b1, b2, b3, b4, b5] t (0, 0)) := (blk_set (blk_set (blk_set (blk_set (blk_set (blk_set h 0 b0) 1 b1) 2 b2) 3 b3) 4 b4) 5 b5)
theorem below6 {B : Nat} {W0 W : World} {g : Nat} (b0 b1 b2 b3 b4 b5 : Value) (h : Below B W0 W) (hg : B ≤ g) : Below B W0 ((((((W.setCell ⟨g, 0, none⟩ b0).setCell ⟨g, 1, none⟩ b1).setCell ⟨g, 2, none⟩ b2).setCell ⟨g, 3, none⟩ b3).setCell ⟨g, 4, none⟩ b4).setCell ⟨g, 5, none⟩ b5) := ((((((h.setCell hg b0).setCell hg b1).setCell hg b2).setCell hg b3).setCell hg b4).setCell hg b5)
set_option maxHeartbeats 800000 in
set_option maxRecDepth 100000 in
theorem get_short (A0 : Option Addr) (c0 : Nat) (l0 : List Int) (w : World) (h : l0.length < 4) :
    Calls Tryz.prog 5 #[.slice A0 l0.length c0] w fun e w' => e = .returned (.tuple #[.agg #[.int .u64 0, .int .i64 0, .int .i64 0, .int .i64 0, .int .i64 0, .int .i64 0], errV 2]) ∧ Below w.heap.size w w' := by
  have hu := Tryz.underlying28
  have hu2 := Tryz.underlying26
  have hmf : ∀ (fn : Fn) (first cap : Array Value) (w : World), (Instr.makeFunc fn first cap).run Tryz.prog w = .ok (.func fn first cap) w := fun _ _ _ _ => rfl
  obtain ⟨W0, hW0⟩ : ∃ W0, (w.alloc (.cells #[.int .u64 0, .int .i64 0, .int .i64 0, .int .i64 0, .int .i64 0, .int .i64 0] 26)).alloc (.cells #[.int .u64 0, .int .i64 0, .int .i64 0, .int .i64 0, .int .i64 0, .int .i64 0] 26) = W0 := ⟨_, rfl⟩
  have HB := Aside0.mk (show Below w.heap.size w W0 by rw [← hW0]; exact below_alloc (below_alloc (Below.refl _ _) _) _)
  have HC := Aside0.mk (show W0.heap[w.heap.size]? = some (.cells #[.int .u64 0, .int .i64 0, .int .i64 0, .int .i64 0, .int .i64 0, .int .i64 0] 26 (0, 0)) ∧ W0.heap[w.heap.size + 1]? = some (.cells #[.int .u64 0, .int .i64 0, .int .i64 0, .int .i64 0, .int .i64 0, .int .i64 0] 26 (0, 0)) from two_cells w _ _ _ _ (by rw [hW0]; exact Below.refl _ _))
  have HS := Aside0.mk (show W0.heap.size = w.heap.size + 2 by rw [← hW0]; simp [World.size_alloc])
  have HW0 := Aside0.mk hW0
  clear hW0
  have HO := Aside0.mk (fun fv => open_short A0 c0 l0 W0 fv h)
  clear h
  go_enter Tryz.func5, Tryz.ntmps5
  go_wp2_with fail
  rw [HW0.out]
  refine (HO.out _).mono ?_
  rintro e w1 ⟨rfl, hb⟩
  have hR := (hb.block w.heap.size (by rw [HS.out]; omega)).trans HC.out.1
  have B1 := Aside0.mk (HB.out.trans (hb.mono (by rw [HS.out]; omega)))
  have HR := Aside0.mk hR
  have y0 : w1.cell? ⟨w.heap.size, 0, none⟩ = some (.int .u64 0) := (blk_cell hR 0).trans rfl
  have y1 : w1.cell? ⟨w.heap.size, 1, none⟩ = some (.int .i64 0) := (blk_cell hR 1).trans rfl
  have y2 : w1.cell? ⟨w.heap.size, 2, none⟩ = some (.int .i64 0) := (blk_cell hR 2).trans rfl
  have y3 : w1.cell? ⟨w.heap.size, 3, none⟩ = some (.int .i64 0) := (blk_cell hR 3).trans rfl
  have y4 : w1.cell? ⟨w.heap.size, 4, none⟩ = some (.int .i64 0) := (blk_cell hR 4).trans rfl
  have y5 : w1.cell? ⟨w.heap.size, 5, none⟩ = some (.int .i64 0) := (blk_cell hR 5).trans rfl
  have f0 := blk_frozen hR 0
  have f1 := blk_frozen hR 1
  have f2 := blk_frozen hR 2
  have f3 := blk_frozen hR 3
  have f4 := blk_frozen hR 4
  have f5 := blk_frozen hR 5
  clear hR hb
  go_wp2
  (try simp only [Exit.inBlock, Exit.then])
  refine bodyPost_ret (results_ct rfl _ _ w.heap.size 26 #[.int .u64 0, .int .i64 0, .int .i64 0, .int .i64 0, .int .i64 0, .int .i64 0] (0, 0) _ rfl (set6 (.int .u64 0) (.int .i64 0) (.int .i64 0) (.int .i64 0) (.int .i64 0) (.int .i64 0) HR.out) hu2 rfl (by kernel_rfl)) rfl ?_
  exact ⟨rfl, below6 (.int .u64 0) (.int .i64 0) (.int .i64 0) (.int .i64 0) (.int .i64 0) (.int .i64 0) B1.out (Nat.le_refl _)⟩
set_option maxHeartbeats 800000 in
set_option maxRecDepth 100000 in
theorem get_sum (A0 : Option Addr) (c0 : Nat) (l0 : List Int) (w : World) (hr0 : Kd.C (Kd.int .u8) w A0 l0.length l0) (hc0 : l0.length ≤ c0) (hby : Bytes l0) (hlen : l0.length ≤ 140737488355000) (h4 : 4 ≤ l0.length) (hs : sealed (l0.take (l0.length - 4)) ≠ l0) :
    Calls Tryz.prog 5 #[.slice A0 l0.length c0] w fun e w' => e = .returned (.tuple #[.agg #[.int .u64 0, .int .i64 0, .int .i64 0, .int .i64 0, .int .i64 0, .int .i64 0], errV 7]) ∧ Below w.heap.size w w' := by
  have hu := Tryz.underlying28
  have hu2 := Tryz.underlying26
  have hmf : ∀ (fn : Fn) (first cap : Array Value) (w : World), (Instr.makeFunc fn first cap).run Tryz.prog w = .ok (.func fn first cap) w := fun _ _ _ _ => rfl
  obtain ⟨W0, hW0⟩ : ∃ W0, (w.alloc (.cells #[.int .u64 0, .int .i64 0, .int .i64 0, .int .i64 0, .int .i64 0, .int .i64 0] 26)).alloc (.cells #[.int .u64 0, .int .i64 0, .int .i64 0, .int .i64 0, .int .i64 0, .int .i64 0] 26) = W0 := ⟨_, rfl⟩
  have HB := Aside0.mk (show Below w.heap.size w W0 by rw [← hW0]; exact below_alloc (below_alloc (Below.refl _ _) _) _)
  have HC := Aside0.mk (show W0.heap[w.heap.size]? = some (.cells #[.int .u64 0, .int .i64 0, .int .i64 0, .int .i64 0, .int .i64 0, .int .i64 0] 26 (0, 0)) ∧ W0.heap[w.heap.size + 1]? = some (.cells #[.int .u64 0, .int .i64 0, .int .i64 0, .int .i64 0, .int .i64 0, .int .i64 0] 26 (0, 0)) from two_cells w _ _ _ _ (by rw [hW0]; exact Below.refl _ _))
  have HS := Aside0.mk (show W0.heap.size = w.heap.size + 2 by rw [← hW0]; simp [World.size_alloc])
  have HW0 := Aside0.mk hW0
  clear hW0
  have HO := Aside0.mk (fun fv => open_sum A0 c0 l0 W0 fv (Kd.C_below hr0 HB.out) hc0 hby hlen h4 hs)
  clear hr0 hc0 hby hlen h4 hs
  go_enter Tryz.func5, Tryz.ntmps5
  go_wp2_with fail
  rw [HW0.out]
  refine (HO.out _).mono ?_
  rintro e w1 ⟨rfl, hb⟩
  have hR := (hb.block w.heap.size (by rw [HS.out]; omega)).trans HC.out.1
  have B1 := Aside0.mk (HB.out.trans (hb.mono (by rw [HS.out]; omega)))
  have HR := Aside0.mk hR
  have y0 : w1.cell? ⟨w.heap.size, 0, none⟩ = some (.int .u64 0) := (blk_cell hR 0).trans rfl
  have y1 : w1.cell? ⟨w.heap.size, 1, none⟩ = some (.int .i64 0) := (blk_cell hR 1).trans rfl
  have y2 : w1.cell? ⟨w.heap.size, 2, none⟩ = some (.int .i64 0) := (blk_cell hR 2).trans rfl
  have y3 : w1.cell? ⟨w.heap.size, 3, none⟩ = some (.int .i64 0) := (blk_cell hR 3).trans rfl
  have y4 : w1.cell? ⟨w.heap.size, 4, none⟩ = some (.int .i64 0) := (blk_cell hR 4).trans rfl
  have y5 : w1.cell? ⟨w.heap.size, 5, none⟩ = some (.int .i64 0) := (blk_cell hR 5).trans rfl
  have f0 := blk_frozen hR 0
  have f1 := blk_frozen hR 1
  have f2 := blk_frozen hR 2
  have f3 := blk_frozen hR 3
  have f4 := blk_frozen hR 4
  have f5 := blk_frozen hR 5
  clear hR hb
  go_wp2
  (try simp only [Exit.inBlock, Exit.then])
  refine bodyPost_ret (results_ct rfl _ _ w.heap.size 26 #[.int .u64 0, .int .i64 0, .int .i64 0, .int .i64 0, .int .i64 0, .int .i64 0] (0, 0) _ rfl (set6 (.int .u64 0) (.int .i64 0) (.int .i64 0) (.int .i64 0) (.int .i64 0) (.int .i64 0) HR.out) hu2 rfl (by kernel_rfl)) rfl ?_
  exact ⟨rfl, below6 (.int .u64 0) (.int .i64 0) (.int .i64 0) (.int .i64 0) (.int .i64 0) (.int .i64 0) B1.out (Nat.le_refl _)⟩
set_option maxHeartbeats 800000 in
set_option maxRecDepth 100000 in
theorem get_read (A0 : Option Addr) (c0 : Nat) (l0 l : List Int) (w : World) (hr0 : Kd.C (Kd.int .u8) w A0 l0.length l0) (hc0 : l0.length ≤ c0) (hby : Bytes l) (hlen : l0.length ≤ 140737488355000) (hs : l0 = sealed l) :
    Calls Tryz.prog 5 #[.slice A0 l0.length c0] w fun e w' => ∃ (v0 v1 v2 v3 v4 v5 i : Nat) (b : Int), get1Reads l v0 v1 v2 v3 v4 v5 i b ∧ i ≤ l.length ∧ e = .returned (if mayB (v0 : Nat) (wrap64 (v3 : Nat)) (wrap64 (v1 : Nat)) (wrap64 (v2 : Nat)) (wrap64 (v4 : Nat)) (wrap64 (v5 : Nat)) = true ∧ b < 0 ∧ l.length ≤ i then .tuple #[.agg #[.int .u64 (v0 : Nat), .int .i64 (wrap64 (v3 : Nat)), .int .i64 (wrap64 (v1 : Nat)), .int .i64 (wrap64 (v2 : Nat)), .int .i64 (wrap64 (v4 : Nat)), .int .i64 (wrap64 (v5 : Nat))], .nilIface] else .tuple #[.agg #[.int .u64 0, .int .i64 0, .int .i64 0, .int .i64 0, .int .i64 0, .int .i64 0], errV 2]) ∧ Below w.heap.size w w' := by
  have hu := Tryz.underlying28
  have hu2 := Tryz.underlying26
  have hmf : ∀ (fn : Fn) (first cap : Array Value) (w : World), (Instr.makeFunc fn first cap).run Tryz.prog w = .ok (.func fn first cap) w := fun _ _ _ _ => rfl
  obtain ⟨W0, hW0⟩ : ∃ W0, (w.alloc (.cells #[.int .u64 0, .int .i64 0, .int .i64 0, .int .i64 0, .int .i64 0, .int .i64 0] 26)).alloc (.cells #[.int .u64 0, .int .i64 0, .int .i64 0, .int .i64 0, .int .i64 0, .int .i64 0] 26) = W0 := ⟨_, rfl⟩
  have HB := Aside0.mk (show Below w.heap.size w W0 by rw [← hW0]; exact below_alloc (below_alloc (Below.refl _ _) _) _)
  have HC := Aside0.mk (show W0.heap[w.heap.size]? = some (.cells #[.int .u64 0, .int .i64 0, .int .i64 0, .int .i64 0, .int .i64 0, .int .i64 0] 26 (0, 0)) ∧ W0.heap[w.heap.size + 1]? = some (.cells #[.int .u64 0, .int .i64 0, .int .i64 0, .int .i64 0, .int .i64 0, .int .i64 0] 26 (0, 0)) from two_cells w _ _ _ _ (by rw [hW0]; exact Below.refl _ _))
  have HS := Aside0.mk (show W0.heap.size = w.heap.size + 2 by rw [← hW0]; simp [World.size_alloc])
  have HW0 := Aside0.mk hW0
  clear hW0
  have HO := Aside0.mk (open_get1 A0 c0 l0 l W0 (w.heap.size + 1) (Kd.C_below hr0 HB.out) hc0 hby hlen hs HC.out.2)
  clear hr0 hc0 hby hlen hs
  go_enter Tryz.func5, Tryz.ntmps5
  go_wp2_with fail
  rw [HW0.out]
  refine HO.out.mono ?_
  rintro e w1 ⟨v0, v1, v2, v3, v4, v5, i, b, hrd, hi, rfl, hM, hb⟩
  have hR := (hb.block w.heap.size (by omega)).trans HC.out.1
  have B1 := Aside0.mk (HB.out.trans (hb.mono (by omega)))
  have HR := Aside0.mk hR
  have y0 : w1.cell? ⟨w.heap.size, 0, none⟩ = some (.int .u64 0) := (blk_cell hR 0).trans rfl
  have y1 : w1.cell? ⟨w.heap.size, 1, none⟩ = some (.int .i64 0) := (blk_cell hR 1).trans rfl
  have y2 : w1.cell? ⟨w.heap.size, 2, none⟩ = some (.int .i64 0) := (blk_cell hR 2).trans rfl
  have y3 : w1.cell? ⟨w.heap.size, 3, none⟩ = some (.int .i64 0) := (blk_cell hR 3).trans rfl
  have y4 : w1.cell? ⟨w.heap.size, 4, none⟩ = some (.int .i64 0) := (blk_cell hR 4).trans rfl
  have y5 : w1.cell? ⟨w.heap.size, 5, none⟩ = some (.int .i64 0) := (blk_cell hR 5).trans rfl
  have f0 := blk_frozen hR 0
  have f1 := blk_frozen hR 1
  have f2 := blk_frozen hR 2
  have f3 := blk_frozen hR 3
  have f4 := blk_frozen hR 4
  have f5 := blk_frozen hR 5
  clear hR hb
  have HRD := Aside0.mk hrd
  clear hrd
  by_cases hc : mayB (v0 : Nat) (wrap64 (v3 : Nat)) (wrap64 (v1 : Nat)) (wrap64 (v2 : Nat)) (wrap64 (v4 : Nat)) (wrap64 (v5 : Nat)) = true ∧ b < 0 ∧ l.length ≤ i
  · rw [if_pos hc]
    have HCC := Aside0.mk hc
    clear hc
    have x0 : w1.cell? ⟨w.heap.size + 1, 0, none⟩ = some (.int .u64 (v0 : Nat)) := (blk_cell hM 0).trans rfl
    have x1 : w1.cell? ⟨w.heap.size + 1, 1, none⟩ = some (.int .i64 (wrap64 (v3 : Nat))) := (blk_cell hM 1).trans rfl
    have x2 : w1.cell? ⟨w.heap.size + 1, 2, none⟩ = some (.int .i64 (wrap64 (v1 : Nat))) := (blk_cell hM 2).trans rfl
    have x3 : w1.cell? ⟨w.heap.size + 1, 3, none⟩ = some (.int .i64 (wrap64 (v2 : Nat))) := (blk_cell hM 3).trans rfl
    have x4 : w1.cell? ⟨w.heap.size + 1, 4, none⟩ = some (.int .i64 (wrap64 (v4 : Nat))) := (blk_cell hM 4).trans rfl
    have x5 : w1.cell? ⟨w.heap.size + 1, 5, none⟩ = some (.int .i64 (wrap64 (v5 : Nat))) := (blk_cell hM 5).trans rfl
    clear hM
    go_wp2
    (try simp only [Exit.inBlock, Exit.then])
    refine bodyPost_ret (results_ct rfl _ _ w.heap.size 26 #[.int .u64 (v0 : Nat), .int .i64 (wrap64 (v3 : Nat)), .int .i64 (wrap64 (v1 : Nat)), .int .i64 (wrap64 (v2 : Nat)), .int .i64 (wrap64 (v4 : Nat)), .int .i64 (wrap64 (v5 : Nat))] (0, 0) _ rfl (set6 (.int .u64 (v0 : Nat)) (.int .i64 (wrap64 (v3 : Nat))) (.int .i64 (wrap64 (v1 : Nat))) (.int .i64 (wrap64 (v2 : Nat))) (.int .i64 (wrap64 (v4 : Nat))) (.int .i64 (wrap64 (v5 : Nat))) HR.out) hu2 rfl (by kernel_rfl)) rfl ?_
    exact ⟨v0, v1, v2, v3, v4, v5, i, b, HRD.out, hi, by rw [if_pos HCC.out]; rfl, below6 (.int .u64 (v0 : Nat)) (.int .i64 (wrap64 (v3 : Nat))) (.int .i64 (wrap64 (v1 : Nat))) (.int .i64 (wrap64 (v2 : Nat))) (.int .i64 (wrap64 (v4 : Nat))) (.int .i64 (wrap64 (v5 : Nat))) B1.out (Nat.le_refl _)⟩
  · rw [if_neg hc]
    have HCC := Aside0.mk hc
    clear hc hM
    go_wp2
    (try simp only [Exit.inBlock, Exit.then])
    refine bodyPost_ret (results_ct rfl _ _ w.heap.size 26 #[.int .u64 0, .int .i64 0, .int .i64 0, .int .i64 0, .int .i64 0, .int .i64 0] (0, 0) _ rfl (set6 (.int .u64 0) (.int .i64 0) (.int .i64 0) (.int .i64 0) (.int .i64 0) (.int .i64 0) HR.out) hu2 rfl (by kernel_rfl)) rfl ?_
    exact ⟨v0, v1, v2, v3, v4, v5, i, b, HRD.out, hi, by rw [if_neg HCC.out]; rfl, below6 (.int .u64 0) (.int .i64 0) (.int .i64 0) (.int .i64 0) (.int .i64 0) (.int .i64 0) B1.out (Nat.le_refl _)⟩
end Go.Proofs.YtbfmjbkhnbpbgaaGreatDoor.H
