/- The walks of MetaBack. -/
import Derived.Test.YtbfmjbkhnbpbgaaDoorBackL
import Derived.Test.YtbfmjbkhnbpbgaaDoorUp
set_option linter.unusedVariables false
set_option linter.unusedSimpArgs false
namespace Go.Proofs.YtbfmjbkhnbpbgaaDoor.H
open Go.RowKit Go.Proofs.YtbfmjbkhnbpbgaaDoorW.PrintWords Go.Proofs.YtbfmjbkhnbpbgaaDoorW.PrintLast Go.Proofs.YtbfmjbkhnbpbgaaDoorW.PrintMore
open Go.Proofs.YtbfmjbkhnbpbgaaDoor.PF Go.Proofs.YtbfmjbkhnbpbgaaDoor.Pl
theorem neq_meta (a b c d e f : Int) (w : World) : (binOp .neq 24 (.agg #[.int .u64 a, .int .i64 b, .int .i64 c, .int .i64 d, .int .i64 e, .int .i64 f]) (.agg #[.int .u64 a, .int .i64 b, .int .i64 c, .int .i64 d, .int .i64 e, .int .i64 f])).run Tryd.prog w = .ok (.bool false) w := by
  have h : (Op.equalIn 10000 24 (.agg #[.int .u64 a, .int .i64 b, .int .i64 c, .int .i64 d, .int .i64 e, .int .i64 f]) (.agg #[.int .u64 a, .int .i64 b, .int .i64 c, .int .i64 d, .int .i64 e, .int .i64 f])).run Tryd.prog w = .ok ((a == a) && ((b == b) && ((c == c) && ((d == d) && ((e == e) && (f == f)))))) w := by
    refine eqA_of (d := 9999) Tryd.underlying24 (by kernel_rfl) ?_
    refine eqf_cons (by rfl) (by go_simp; rfl) (by go_simp; rfl) (by go_simp) ?_
    refine eqf_cons (by rfl) (by go_simp; rfl) (by go_simp; rfl) (by go_simp) ?_
    refine eqf_cons (by rfl) (by go_simp; rfl) (by go_simp; rfl) (by go_simp) ?_
    refine eqf_cons (by rfl) (by go_simp; rfl) (by go_simp; rfl) (by go_simp) ?_
    refine eqf_cons (by rfl) (by go_simp; rfl) (by go_simp; rfl) (by go_simp) ?_
    exact eqf_last (by rfl) (by go_simp; rfl) (by go_simp; rfl) (by go_simp)
  rw [run_neq_struct w, h]
  simp [Result.andThen]
theorem run_neq_iface_int {P : Program} (w : World) {ti tn : TypeId} {ms : Array (String × TypeId)} {i : TypeInfo} {k : IntKind} (a b : Int)
    (hi : P.underlying ti = some (.interface ms)) (hn : P.underlying tn = some (.int k)) (hinfo : P.info? tn = some i) (hcomp : i.comparable = true) :
    (binOp .neq ti (.iface tn (.int k a)) (.iface tn (.int k b))).run P w = .ok (.bool (a != b)) w := by
  simp only [binOp]
  simp [Op.equal, Op.maxDepth, run_equalIn_iface_int w 9998 a b hi hn hinfo hcomp]
  simp [bne]
theorem neq_code (w : World) (a b : Int) : (binOp .neq 30 (.iface 36 (.int .i64 a)) (.iface 36 (.int .i64 b))).run Tryd.prog w = .ok (.bool (a != b)) w := by
  obtain ⟨i, hi, hc⟩ := codeInfo
  exact run_neq_iface_int w a b Tryd.underlying30 Tryd.underlying36 hi hc
theorem neq_code7 (w : World) : (binOp .neq 30 (errV 7) (errV 7)).run Tryd.prog w = .ok (.bool false) w := neq_code w 7 7
theorem name_list (u : Nat) (c : UInt8) : (⟨(nameW u c).toArray⟩ : ByteArray).toList = nameW u c := by rw [ByteArray.toList_eq]
theorem eql_names (u v : Nat) (hu : u < 18446744073709551616) (hv : v < 18446744073709551616) : ((⟨(nameW u 109).toArray⟩ : ByteArray).toList == (⟨(nameW v 109).toArray⟩ : ByteArray).toList) = decide (u = v) := by
  rw [name_list, name_list]
  by_cases h : u = v
  · subst h; simp
  · rw [decide_eq_false h]
    exact beq_eq_false_iff_ne.mpr (fun e => h ((nameW_eq u v 109 109 hu hv).1 (by rw [e])).1)
theorem neq_names (u v : Nat) (hu : u < 18446744073709551616) (hv : v < 18446744073709551616) : ((⟨(nameW u 109).toArray⟩ : ByteArray).toList == (⟨(nameW v 120).toArray⟩ : ByteArray).toList) = false := by
  rw [name_list, name_list]
  exact beq_eq_false_iff_ne.mpr (fun e => absurd ((nameW_eq u v 109 120 hu hv).1 (by rw [e])).2 (by decide))

set_option maxHeartbeats 1600000 in
set_option maxRecDepth 100000 in
theorem back_yw (a b c d e f pos pg : Int) (x u v : Nat) (w : World) (hg : Gl w) (ha : a < 18446744073709551616) (hx : x < 256) (hu : u < 18446744073709551616) (hv : v < 18446744073709551616) (hpg : pg ≤ 9223372036854775807) (hm : mayB a b c d e f = true) (hwr : 0 ≤ pos ∧ pos < 35 ∧ x ≠ 0) :
    Calls Tryd.prog 4 #[.agg #[.int .u64 a, .int .i64 b, .int .i64 c, .int .i64 d, .int .i64 e, .int .i64 f], .int .i64 pos, .int .u8 x, .int .u64 u, .int .u64 v, .int .i64 pg] w fun e' w' => e' = .returned (.bool true) ∧ Below w.heap.size w w' := by
  have hu24 := Tryd.underlying24
  have hu30 := Tryd.underlying30
  have q1 := neq_code7
  have q2 := fun W => neq_meta a b c d e f W
  have HG := Aside0.mk (fun W (h : Below w.heap.size w W) => hg.below h)
  obtain ⟨s1, hs1⟩ : ∃ s : ByteArray, s = ⟨(nameW u 109).toArray⟩ := ⟨_, rfl⟩
  obtain ⟨s2, hs2⟩ : ∃ s : ByteArray, s = ⟨(nameW v 109).toArray⟩ := ⟨_, rfl⟩
  obtain ⟨s3, hs3⟩ : ∃ s : ByteArray, s = ⟨(nameW v 120).toArray⟩ := ⟨_, rfl⟩
  have N1 := Aside0.mk (fun W hW => name_w u 109 0 hu W hW (by decide))
  have N2 := Aside0.mk (fun W hW => name_w v 109 0 hv W hW (by decide))
  have N3 := Aside0.mk (fun W hW => name_w v 120 0 hv W hW (by decide))
  have E12 := Aside0.mk (eql_names u v hu hv)
  have E13 := Aside0.mk (neq_names u v hu hv)
  rw [← hs1] at N1 E12 E13
  rw [← hs2] at N2 E12
  rw [← hs3] at N3 E13
  clear hs1 hs2 hs3
  obtain ⟨n, hn1, hn⟩ : ∃ n : Nat, n < 1000 ∧ ((pg < 0 ∧ n = 0) ∨ (0 ≤ pg ∧ (n : Int) = pg % 1000)) := by
    by_cases h : pg < 0
    · exact ⟨0, by decide, Or.inl ⟨h, rfl⟩⟩
    · exact ⟨(pg % 1000).toNat, by omega, Or.inr ⟨by omega, by omega⟩⟩
  have HNP := Aside0.mk (fun W hW => name_p u pg n hu W hW hpg hn)
  have HPP := Aside0.mk (fun W hW => parse_p u n hu hn1 W hW)
  obtain ⟨s4, hs4⟩ : ∃ s : ByteArray, s = ⟨(nameP u n).toArray⟩ := ⟨_, rfl⟩
  rw [← hs4] at HNP HPP
  clear hs4
  have HO : MetaOk a b c d e f := of_decide_eq_true hm
  have hfl : (flatB (metaF a b c d e f)).length = 31 := by simp [flatB, metaF, beN_length]
  have HPut := Aside0.mk (fun W => meta_Put_yes a b c d e f W hm ha)
  obtain ⟨l, hl⟩ : ∃ l, flatB (metaF a b c d e f) = l := ⟨_, rfl⟩
  have hby : Bytes l := by rw [← hl]; exact flatB_bytes _
  have HS := Aside0.mk (show metaBytes a b c d e f = sealed l by rw [← hl]; rfl)
  rw [HS.out] at HPut
  have HM := Aside0.mk (fun {v0 v1 v2 v3 v4 v5 i : Nat} {bad : Int} => get1_of_put (v0 := v0) (v1 := v1) (v2 := v2) (v3 := v3) (v4 := v4) (v5 := v5) (i := i) (bad := bad) HO ha)
  rw [hl] at hfl
  have HL := Aside0.mk hl
  clear hl
  have HMay := Aside0.mk hm
  clear hm ha hg
  obtain ⟨W0, hW0⟩ : ∃ W0, w.alloc (.cells #[.int .u64 a, .int .i64 b, .int .i64 c, .int .i64 d, .int .i64 e, .int .i64 f] 24) = W0 := ⟨_, rfl⟩
  have B0 := Aside0.mk (show Below w.heap.size w W0 by rw [← hW0]; exact below_alloc (Below.refl _ _) _)
  have K0 := Aside0.mk (show W0.heap[w.heap.size]? = some (.cells #[.int .u64 a, .int .i64 b, .int .i64 c, .int .i64 d, .int .i64 e, .int .i64 f] 24 (0, 0)) by rw [← hW0]; exact heap_alloc_new w _)
  have HW0 := Aside0.mk hW0
  clear hW0
  go_enter Tryd.func4, Tryd.ntmps4
  go_wp2_with fail
  rw [HW0.out]
  refine (up_true _ (HG.out _ B0.out)).mono ?_
  rintro e' w1 ⟨rfl, hb⟩
  have B1 := Aside0.mk (below_step B0.out hb)
  have K1 := Aside0.mk ((hb.block _ (blk_lt K0.out)).trans K0.out)
  clear hb
  have z0 : w1.cell? ⟨w.heap.size, 0, none⟩ = some (.int .u64 a) := (blk_cell K1.out 0).trans rfl
  have z1 : w1.cell? ⟨w.heap.size, 1, none⟩ = some (.int .i64 b) := (blk_cell K1.out 1).trans rfl
  have z2 : w1.cell? ⟨w.heap.size, 2, none⟩ = some (.int .i64 c) := (blk_cell K1.out 2).trans rfl
  have z3 : w1.cell? ⟨w.heap.size, 3, none⟩ = some (.int .i64 d) := (blk_cell K1.out 3).trans rfl
  have z4 : w1.cell? ⟨w.heap.size, 4, none⟩ = some (.int .i64 e) := (blk_cell K1.out 4).trans rfl
  have z5 : w1.cell? ⟨w.heap.size, 5, none⟩ = some (.int .i64 f) := (blk_cell K1.out 5).trans rfl
  go_wp2_with fail
  refine (HPut.out _).mono ?_
  rintro e' w2 ⟨p, rfl, hp, hb⟩
  have B2 := Aside0.mk (below_step B1.out hb)
  have K2 := Aside0.mk ((hb.block _ (blk_lt K1.out)).trans K1.out)
  obtain ⟨A, cp, rfl, hcp, hC⟩ := Kd.R_reads hp
  have h35 : (sealed l).length = 35 := by rw [seal_length, hfl]
  have HG2 := Aside0.mk (get_read A cp (sealed l) l w2 hC hcp hby (by omega) rfl)
  rw [h35] at HG2 hcp hp
  rw [h35]
  have HP := Aside0.mk hp
  have H35 := Aside0.mk h35
  clear h35
  clear hb hp hC z0 z1 z2 z3 z4 z5
  go_wp2_with fail
  refine HG2.out.mono ?_
  rintro e' w3 ⟨v0, v1, v2, v3, v4, v5, i, bad, hrd, hi, rfl, hb⟩
  obtain ⟨y0, y1, y2, y3, y4, y5, y6, y7⟩ := HM.out (by rw [HL.out]; exact hrd)
  rw [HL.out] at y6
  rw [y0, y1, y2, y3, y4, y5, y6, y7, if_pos ⟨HMay.out, by decide, Nat.le_refl _⟩]
  have B3 := Aside0.mk (below_step B2.out hb)
  have K3 := Aside0.mk ((hb.block _ (blk_lt K2.out)).trans K2.out)
  have HC3 := Aside0.mk (Kd.R_below HP.out hb)
  clear hrd hi y0 y1 y2 y3 y4 y5 y6 y7 HG2 HM hb
  have z0 : w3.cell? ⟨w.heap.size, 0, none⟩ = some (.int .u64 a) := (blk_cell K3.out 0).trans rfl
  have z1 : w3.cell? ⟨w.heap.size, 1, none⟩ = some (.int .i64 b) := (blk_cell K3.out 1).trans rfl
  have z2 : w3.cell? ⟨w.heap.size, 2, none⟩ = some (.int .i64 c) := (blk_cell K3.out 2).trans rfl
  have z3 : w3.cell? ⟨w.heap.size, 3, none⟩ = some (.int .i64 d) := (blk_cell K3.out 3).trans rfl
  have z4 : w3.cell? ⟨w.heap.size, 4, none⟩ = some (.int .i64 e) := (blk_cell K3.out 4).trans rfl
  have z5 : w3.cell? ⟨w.heap.size, 5, none⟩ = some (.int .i64 f) := (blk_cell K3.out 5).trans rfl
  have hlt : w.heap.size < w3.heap.size := blk_lt K3.out
  have hne : w.heap.size ≠ w3.heap.size := Nat.ne_of_lt hlt
  have hne' : ¬ w3.heap.size = w.heap.size := fun e => hne e.symm
  have B4 := Aside0.mk (B3.out.alloc (B3.out.size) (.cells #[.int .u64 a, .int .i64 b, .int .i64 c, .int .i64 d, .int .i64 e, .int .i64 f] 24))
  obtain ⟨h0, h1, h2⟩ := hwr
  obtain ⟨q, rfl⟩ : ∃ q : Nat, pos = q := ⟨pos.toNat, by omega⟩
  have hq : q < 35 := by omega
  obtain ⟨ad, rfl, hcx⟩ := Kd.at_int (Kd.R_reads' HC3.out).2.2 q (by omega) (by rw [H35.out]; omega)
  obtain ⟨g0, rfl⟩ := Kd.R_head HC3.out
  have hge : w1.heap.size ≤ g0 := Kd.R_base HC3.out g0 (by simp [Value.ownBlock])
  have HC4 := Aside0.mk (show (Kd.int .u8).R 5 (w3.alloc (.cells #[.int .u64 a, .int .i64 b, .int .i64 c, .int .i64 d, .int .i64 e, .int .i64 f] 24)) w1.heap.size (fun _ => True) (.slice (some ⟨g0, 0, none⟩) 35 cp) (sealed l) from Kd.R_below HC3.out (below_alloc (Below.refl _ _) _))
  clear hcx HC3
  obtain ⟨hcx, hfx⟩ := Kd.R_celln (enc := Value.int .u8) (h1 := fun _ => rfl) 0 HC4.out q (by omega) (by omega)
  have hrd : rdOf 0 (sealed l) (q : Int) = rd (sealed l) (q : Int) := rfl
  have hrb := (seal_bytes hby).rd q (by rw [H35.out]; omega)
  rw [hrd] at hcx
  rw [Int.toNat_natCast] at hcx hfx
  obtain ⟨y, ey⟩ : ∃ y : Nat, (y : Int) = rd (sealed l) (q : Int) := ⟨(rd (sealed l) (q : Int)).toNat, by omega⟩
  rw [← ey] at hcx hrb
  obtain ⟨hx1, hx2, hx3⟩ := xor_byte y x (by omega) hx h2
  have hgetq : (sealed l)[q]? = some (y : Int) := by
    rw [ey]
    unfold rd
    rw [Int.toNat_natCast, List.getD_eq_getElem?_getD, List.getElem?_eq_getElem (by rw [H35.out]; omega)]
    rfl
  have hch := sealed_changed hby (i := q) (c := ((y ^^^ x : Nat) : Int)) (by rw [H35.out]; omega) (by omega) (by omega) (by rw [hgetq]; intro h; have := Option.some.inj h; omega)
  obtain ⟨W5, hW5⟩ : ∃ W5, (w3.alloc (.cells #[.int .u64 a, .int .i64 b, .int .i64 c, .int .i64 d, .int .i64 e, .int .i64 f] 24)).setCell ⟨g0, q, none⟩ (.int .u8 (y ^^^ x : Nat)) = W5 := ⟨_, rfl⟩
  have B5 := Aside0.mk (show Below w.heap.size w W5 by rw [← hW5]; exact B4.out.setCell (Nat.le_trans B1.out.size hge) _)
  have hR5 : (Kd.int .u8).R 5 W5 w1.heap.size (fun _ => True) (.slice (some ⟨g0, 0, none⟩) 35 cp) ((sealed l).set q ((y ^^^ x : Nat) : Int)) := by
    rw [← hW5]
    exact Kd.R_putn (enc := Value.int .u8) (h1 := fun _ => rfl) HC4.out (q : Int) ((y ^^^ x : Nat) : Int)
  have hl5 : ((sealed l).set q ((y ^^^ x : Nat) : Int)).length = 35 := by rw [List.length_set]; exact H35.out
  have hby5 : Bytes ((sealed l).set q ((y ^^^ x : Nat) : Int)) := by
    intro z hz
    rcases List.mem_or_eq_of_mem_set hz with h | h
    · exact seal_bytes hby z h
    · rw [h]; omega
  obtain ⟨l5, el5⟩ : ∃ l5, (sealed l).set q ((y ^^^ x : Nat) : Int) = l5 := ⟨_, rfl⟩
  rw [el5] at hR5 hl5 hby5 hch
  have HG5 := Aside0.mk (get_sum (some ⟨g0, 0, none⟩) cp l5 W5 (Kd.R_reads' hR5).2.2 (by rw [hl5]; exact hcp) hby5 (by omega) (by omega) (by rw [hl5, show 35 - 4 = l.length by omega]; exact hch))
  rw [hl5] at HG5
  have HW5 := Aside0.mk hW5
  have hx0 : (x : Int) ≠ 0 := by omega
  clear hW5 hR5 hl5 hby5 hch el5 hgetq ey hrb hx2 hx3 hrd B4 HC4 hge h2
  go_wp2_with fail
  rw [HW5.out]
  refine HG5.out.mono ?_
  rintro e' w6 ⟨rfl, hb⟩
  have B6 := Aside0.mk (below_step B5.out hb)
  clear hb HG5 hcx hfx hx1 z0 z1 z2 z3 z4 z5 HW5
  go_wp2_with fail
  refine (HNP.out _ (HG.out _ B6.out)).mono ?_
  rintro e' w7 ⟨rfl, hb⟩
  have B7 := Aside0.mk (below_step B6.out hb)
  clear hb
  go_wp2_with fail
  refine (HPP.out _ (HG.out _ B7.out)).mono ?_
  rintro e' w8 ⟨rfl, hb⟩
  have B8 := Aside0.mk (below_step B7.out hb)
  clear hb
  by_cases hp : 0 ≤ pg
  · by_cases hp2 : pg < 1000
    · have e : pg = n := by omega
      subst e
      by_cases huv : u = v
      · subst huv
        have E1 := E12.out
        have E3 := E13.out
        rw [decide_eq_true rfl] at E1
        go_wp2_with fail
        refine (N1.out _ (HG.out _ B8.out)).mono ?_
        rintro e' w9 ⟨rfl, hb⟩
        have B9 := Aside0.mk (below_step B8.out hb)
        clear hb
        go_wp2_with fail
        refine (N2.out _ (HG.out _ B9.out)).mono ?_
        rintro e' w10 ⟨rfl, hb⟩
        have B10 := Aside0.mk (below_step B9.out hb)
        clear hb
        go_wp2_with fail
        refine (N1.out _ (HG.out _ B10.out)).mono ?_
        rintro e' w11 ⟨rfl, hb⟩
        have B11 := Aside0.mk (below_step B10.out hb)
        clear hb
        go_wp2_with fail
        refine (N3.out _ (HG.out _ B11.out)).mono ?_
        rintro e' w12 ⟨rfl, hb⟩
        have B12 := Aside0.mk (below_step B11.out hb)
        clear hb
        go_wp2_with fail
        refine (name_q u 0 _).mono ?_
        rintro e' w13 ⟨rfl, rfl⟩
        go_wp2
        go_ret
        exact ⟨rfl, B12.out⟩
      · have huv1 : ((u : Int) == (v : Int)) = false := beq_eq_false_iff_ne.mpr (by omega)
        have E1 := E12.out
        have E3 := E13.out
        rw [decide_eq_false huv] at E1
        go_wp2_with fail
        refine (N1.out _ (HG.out _ B8.out)).mono ?_
        rintro e' w9 ⟨rfl, hb⟩
        have B9 := Aside0.mk (below_step B8.out hb)
        clear hb
        go_wp2_with fail
        refine (N2.out _ (HG.out _ B9.out)).mono ?_
        rintro e' w10 ⟨rfl, hb⟩
        have B10 := Aside0.mk (below_step B9.out hb)
        clear hb
        go_wp2_with fail
        refine (N1.out _ (HG.out _ B10.out)).mono ?_
        rintro e' w11 ⟨rfl, hb⟩
        have B11 := Aside0.mk (below_step B10.out hb)
        clear hb
        go_wp2_with fail
        refine (N3.out _ (HG.out _ B11.out)).mono ?_
        rintro e' w12 ⟨rfl, hb⟩
        have B12 := Aside0.mk (below_step B11.out hb)
        clear hb
        go_wp2_with fail
        refine (name_q u 0 _).mono ?_
        rintro e' w13 ⟨rfl, rfl⟩
        go_wp2
        go_ret
        exact ⟨rfl, B12.out⟩
    · have e2 : decide (pg < 1000) = false := decide_eq_false hp2
      by_cases huv : u = v
      · subst huv
        have E1 := E12.out
        have E3 := E13.out
        rw [decide_eq_true rfl] at E1
        go_wp2_with fail
        refine (N1.out _ (HG.out _ B8.out)).mono ?_
        rintro e' w9 ⟨rfl, hb⟩
        have B9 := Aside0.mk (below_step B8.out hb)
        clear hb
        go_wp2_with fail
        refine (N2.out _ (HG.out _ B9.out)).mono ?_
        rintro e' w10 ⟨rfl, hb⟩
        have B10 := Aside0.mk (below_step B9.out hb)
        clear hb
        go_wp2_with fail
        refine (N1.out _ (HG.out _ B10.out)).mono ?_
        rintro e' w11 ⟨rfl, hb⟩
        have B11 := Aside0.mk (below_step B10.out hb)
        clear hb
        go_wp2_with fail
        refine (N3.out _ (HG.out _ B11.out)).mono ?_
        rintro e' w12 ⟨rfl, hb⟩
        have B12 := Aside0.mk (below_step B11.out hb)
        clear hb
        go_wp2_with fail
        refine (name_q u 0 _).mono ?_
        rintro e' w13 ⟨rfl, rfl⟩
        go_wp2
        go_ret
        exact ⟨rfl, B12.out⟩
      · have huv1 : ((u : Int) == (v : Int)) = false := beq_eq_false_iff_ne.mpr (by omega)
        have E1 := E12.out
        have E3 := E13.out
        rw [decide_eq_false huv] at E1
        go_wp2_with fail
        refine (N1.out _ (HG.out _ B8.out)).mono ?_
        rintro e' w9 ⟨rfl, hb⟩
        have B9 := Aside0.mk (below_step B8.out hb)
        clear hb
        go_wp2_with fail
        refine (N2.out _ (HG.out _ B9.out)).mono ?_
        rintro e' w10 ⟨rfl, hb⟩
        have B10 := Aside0.mk (below_step B9.out hb)
        clear hb
        go_wp2_with fail
        refine (N1.out _ (HG.out _ B10.out)).mono ?_
        rintro e' w11 ⟨rfl, hb⟩
        have B11 := Aside0.mk (below_step B10.out hb)
        clear hb
        go_wp2_with fail
        refine (N3.out _ (HG.out _ B11.out)).mono ?_
        rintro e' w12 ⟨rfl, hb⟩
        have B12 := Aside0.mk (below_step B11.out hb)
        clear hb
        go_wp2_with fail
        refine (name_q u 0 _).mono ?_
        rintro e' w13 ⟨rfl, rfl⟩
        go_wp2
        go_ret
        exact ⟨rfl, B12.out⟩
  · have e1 : decide (0 ≤ pg) = false := decide_eq_false hp
    by_cases huv : u = v
    · subst huv
      have E1 := E12.out
      have E3 := E13.out
      rw [decide_eq_true rfl] at E1
      go_wp2_with fail
      refine (N1.out _ (HG.out _ B8.out)).mono ?_
      rintro e' w9 ⟨rfl, hb⟩
      have B9 := Aside0.mk (below_step B8.out hb)
      clear hb
      go_wp2_with fail
      refine (N2.out _ (HG.out _ B9.out)).mono ?_
      rintro e' w10 ⟨rfl, hb⟩
      have B10 := Aside0.mk (below_step B9.out hb)
      clear hb
      go_wp2_with fail
      refine (N1.out _ (HG.out _ B10.out)).mono ?_
      rintro e' w11 ⟨rfl, hb⟩
      have B11 := Aside0.mk (below_step B10.out hb)
      clear hb
      go_wp2_with fail
      refine (N3.out _ (HG.out _ B11.out)).mono ?_
      rintro e' w12 ⟨rfl, hb⟩
      have B12 := Aside0.mk (below_step B11.out hb)
      clear hb
      go_wp2_with fail
      refine (name_q u 0 _).mono ?_
      rintro e' w13 ⟨rfl, rfl⟩
      go_wp2
      go_ret
      exact ⟨rfl, B12.out⟩
    · have huv1 : ((u : Int) == (v : Int)) = false := beq_eq_false_iff_ne.mpr (by omega)
      have E1 := E12.out
      have E3 := E13.out
      rw [decide_eq_false huv] at E1
      go_wp2_with fail
      refine (N1.out _ (HG.out _ B8.out)).mono ?_
      rintro e' w9 ⟨rfl, hb⟩
      have B9 := Aside0.mk (below_step B8.out hb)
      clear hb
      go_wp2_with fail
      refine (N2.out _ (HG.out _ B9.out)).mono ?_
      rintro e' w10 ⟨rfl, hb⟩
      have B10 := Aside0.mk (below_step B9.out hb)
      clear hb
      go_wp2_with fail
      refine (N1.out _ (HG.out _ B10.out)).mono ?_
      rintro e' w11 ⟨rfl, hb⟩
      have B11 := Aside0.mk (below_step B10.out hb)
      clear hb
      go_wp2_with fail
      refine (N3.out _ (HG.out _ B11.out)).mono ?_
      rintro e' w12 ⟨rfl, hb⟩
      have B12 := Aside0.mk (below_step B11.out hb)
      clear hb
      go_wp2_with fail
      refine (name_q u 0 _).mono ?_
      rintro e' w13 ⟨rfl, rfl⟩
      go_wp2
      go_ret
      exact ⟨rfl, B12.out⟩

set_option maxHeartbeats 1600000 in
set_option maxRecDepth 100000 in
theorem back_y1 (a b c d e f pos pg : Int) (x u v : Nat) (w : World) (hg : Gl w) (ha : a < 18446744073709551616) (hx : x < 256) (hu : u < 18446744073709551616) (hv : v < 18446744073709551616) (hpg : pg ≤ 9223372036854775807) (hm : mayB a b c d e f = true) (hwr : pos < 0) :
    Calls Tryd.prog 4 #[.agg #[.int .u64 a, .int .i64 b, .int .i64 c, .int .i64 d, .int .i64 e, .int .i64 f], .int .i64 pos, .int .u8 x, .int .u64 u, .int .u64 v, .int .i64 pg] w fun e' w' => e' = .returned (.bool true) ∧ Below w.heap.size w w' := by
  have hu24 := Tryd.underlying24
  have hu30 := Tryd.underlying30
  have q1 := neq_code7
  have q2 := fun W => neq_meta a b c d e f W
  have HG := Aside0.mk (fun W (h : Below w.heap.size w W) => hg.below h)
  obtain ⟨s1, hs1⟩ : ∃ s : ByteArray, s = ⟨(nameW u 109).toArray⟩ := ⟨_, rfl⟩
  obtain ⟨s2, hs2⟩ : ∃ s : ByteArray, s = ⟨(nameW v 109).toArray⟩ := ⟨_, rfl⟩
  obtain ⟨s3, hs3⟩ : ∃ s : ByteArray, s = ⟨(nameW v 120).toArray⟩ := ⟨_, rfl⟩
  have N1 := Aside0.mk (fun W hW => name_w u 109 0 hu W hW (by decide))
  have N2 := Aside0.mk (fun W hW => name_w v 109 0 hv W hW (by decide))
  have N3 := Aside0.mk (fun W hW => name_w v 120 0 hv W hW (by decide))
  have E12 := Aside0.mk (eql_names u v hu hv)
  have E13 := Aside0.mk (neq_names u v hu hv)
  rw [← hs1] at N1 E12 E13
  rw [← hs2] at N2 E12
  rw [← hs3] at N3 E13
  clear hs1 hs2 hs3
  obtain ⟨n, hn1, hn⟩ : ∃ n : Nat, n < 1000 ∧ ((pg < 0 ∧ n = 0) ∨ (0 ≤ pg ∧ (n : Int) = pg % 1000)) := by
    by_cases h : pg < 0
    · exact ⟨0, by decide, Or.inl ⟨h, rfl⟩⟩
    · exact ⟨(pg % 1000).toNat, by omega, Or.inr ⟨by omega, by omega⟩⟩
  have HNP := Aside0.mk (fun W hW => name_p u pg n hu W hW hpg hn)
  have HPP := Aside0.mk (fun W hW => parse_p u n hu hn1 W hW)
  obtain ⟨s4, hs4⟩ : ∃ s : ByteArray, s = ⟨(nameP u n).toArray⟩ := ⟨_, rfl⟩
  rw [← hs4] at HNP HPP
  clear hs4
  have HO : MetaOk a b c d e f := of_decide_eq_true hm
  have hfl : (flatB (metaF a b c d e f)).length = 31 := by simp [flatB, metaF, beN_length]
  have HPut := Aside0.mk (fun W => meta_Put_yes a b c d e f W hm ha)
  obtain ⟨l, hl⟩ : ∃ l, flatB (metaF a b c d e f) = l := ⟨_, rfl⟩
  have hby : Bytes l := by rw [← hl]; exact flatB_bytes _
  have HS := Aside0.mk (show metaBytes a b c d e f = sealed l by rw [← hl]; rfl)
  rw [HS.out] at HPut
  have HM := Aside0.mk (fun {v0 v1 v2 v3 v4 v5 i : Nat} {bad : Int} => get1_of_put (v0 := v0) (v1 := v1) (v2 := v2) (v3 := v3) (v4 := v4) (v5 := v5) (i := i) (bad := bad) HO ha)
  rw [hl] at hfl
  have HL := Aside0.mk hl
  clear hl
  have HMay := Aside0.mk hm
  clear hm ha hg
  obtain ⟨W0, hW0⟩ : ∃ W0, w.alloc (.cells #[.int .u64 a, .int .i64 b, .int .i64 c, .int .i64 d, .int .i64 e, .int .i64 f] 24) = W0 := ⟨_, rfl⟩
  have B0 := Aside0.mk (show Below w.heap.size w W0 by rw [← hW0]; exact below_alloc (Below.refl _ _) _)
  have K0 := Aside0.mk (show W0.heap[w.heap.size]? = some (.cells #[.int .u64 a, .int .i64 b, .int .i64 c, .int .i64 d, .int .i64 e, .int .i64 f] 24 (0, 0)) by rw [← hW0]; exact heap_alloc_new w _)
  have HW0 := Aside0.mk hW0
  clear hW0
  go_enter Tryd.func4, Tryd.ntmps4
  go_wp2_with fail
  rw [HW0.out]
  refine (up_true _ (HG.out _ B0.out)).mono ?_
  rintro e' w1 ⟨rfl, hb⟩
  have B1 := Aside0.mk (below_step B0.out hb)
  have K1 := Aside0.mk ((hb.block _ (blk_lt K0.out)).trans K0.out)
  clear hb
  have z0 : w1.cell? ⟨w.heap.size, 0, none⟩ = some (.int .u64 a) := (blk_cell K1.out 0).trans rfl
  have z1 : w1.cell? ⟨w.heap.size, 1, none⟩ = some (.int .i64 b) := (blk_cell K1.out 1).trans rfl
  have z2 : w1.cell? ⟨w.heap.size, 2, none⟩ = some (.int .i64 c) := (blk_cell K1.out 2).trans rfl
  have z3 : w1.cell? ⟨w.heap.size, 3, none⟩ = some (.int .i64 d) := (blk_cell K1.out 3).trans rfl
  have z4 : w1.cell? ⟨w.heap.size, 4, none⟩ = some (.int .i64 e) := (blk_cell K1.out 4).trans rfl
  have z5 : w1.cell? ⟨w.heap.size, 5, none⟩ = some (.int .i64 f) := (blk_cell K1.out 5).trans rfl
  go_wp2_with fail
  refine (HPut.out _).mono ?_
  rintro e' w2 ⟨p, rfl, hp, hb⟩
  have B2 := Aside0.mk (below_step B1.out hb)
  have K2 := Aside0.mk ((hb.block _ (blk_lt K1.out)).trans K1.out)
  obtain ⟨A, cp, rfl, hcp, hC⟩ := Kd.R_reads hp
  have h35 : (sealed l).length = 35 := by rw [seal_length, hfl]
  have HG2 := Aside0.mk (get_read A cp (sealed l) l w2 hC hcp hby (by omega) rfl)
  rw [h35] at HG2 hcp hp
  rw [h35]
  have HP := Aside0.mk hp
  have H35 := Aside0.mk h35
  clear h35
  clear hb hp hC z0 z1 z2 z3 z4 z5
  go_wp2_with fail
  refine HG2.out.mono ?_
  rintro e' w3 ⟨v0, v1, v2, v3, v4, v5, i, bad, hrd, hi, rfl, hb⟩
  obtain ⟨y0, y1, y2, y3, y4, y5, y6, y7⟩ := HM.out (by rw [HL.out]; exact hrd)
  rw [HL.out] at y6
  rw [y0, y1, y2, y3, y4, y5, y6, y7, if_pos ⟨HMay.out, by decide, Nat.le_refl _⟩]
  have B3 := Aside0.mk (below_step B2.out hb)
  have K3 := Aside0.mk ((hb.block _ (blk_lt K2.out)).trans K2.out)
  have HC3 := Aside0.mk (Kd.R_below HP.out hb)
  clear hrd hi y0 y1 y2 y3 y4 y5 y6 y7 HG2 HM hb
  have z0 : w3.cell? ⟨w.heap.size, 0, none⟩ = some (.int .u64 a) := (blk_cell K3.out 0).trans rfl
  have z1 : w3.cell? ⟨w.heap.size, 1, none⟩ = some (.int .i64 b) := (blk_cell K3.out 1).trans rfl
  have z2 : w3.cell? ⟨w.heap.size, 2, none⟩ = some (.int .i64 c) := (blk_cell K3.out 2).trans rfl
  have z3 : w3.cell? ⟨w.heap.size, 3, none⟩ = some (.int .i64 d) := (blk_cell K3.out 3).trans rfl
  have z4 : w3.cell? ⟨w.heap.size, 4, none⟩ = some (.int .i64 e) := (blk_cell K3.out 4).trans rfl
  have z5 : w3.cell? ⟨w.heap.size, 5, none⟩ = some (.int .i64 f) := (blk_cell K3.out 5).trans rfl
  have hlt : w.heap.size < w3.heap.size := blk_lt K3.out
  have hne : w.heap.size ≠ w3.heap.size := Nat.ne_of_lt hlt
  have hne' : ¬ w3.heap.size = w.heap.size := fun e => hne e.symm
  have B4 := Aside0.mk (B3.out.alloc (B3.out.size) (.cells #[.int .u64 a, .int .i64 b, .int .i64 c, .int .i64 d, .int .i64 e, .int .i64 f] 24))
  have e0 : decide (0 ≤ pos) = false := decide_eq_false (by omega)
  obtain ⟨w4, hw4⟩ : ∃ w4, w3.alloc (.cells #[.int .u64 a, .int .i64 b, .int .i64 c, .int .i64 d, .int .i64 e, .int .i64 f] 24) = w4 := ⟨_, rfl⟩
  rw [hw4] at B4
  have HW4 := Aside0.mk hw4
  clear hw4
  go_wp2_with fail
  rw [HW4.out]
  refine (HNP.out _ (HG.out _ B4.out)).mono ?_
  rintro e' w5 ⟨rfl, hb⟩
  have B5 := Aside0.mk (below_step B4.out hb)
  clear hb
  go_wp2_with fail
  refine (HPP.out _ (HG.out _ B5.out)).mono ?_
  rintro e' w6 ⟨rfl, hb⟩
  have B6 := Aside0.mk (below_step B5.out hb)
  clear hb
  by_cases hp : 0 ≤ pg
  · by_cases hp2 : pg < 1000
    · have e : pg = n := by omega
      subst e
      by_cases huv : u = v
      · subst huv
        have E1 := E12.out
        have E3 := E13.out
        rw [decide_eq_true rfl] at E1
        go_wp2_with fail
        refine (N1.out _ (HG.out _ B6.out)).mono ?_
        rintro e' w7 ⟨rfl, hb⟩
        have B7 := Aside0.mk (below_step B6.out hb)
        clear hb
        go_wp2_with fail
        refine (N2.out _ (HG.out _ B7.out)).mono ?_
        rintro e' w8 ⟨rfl, hb⟩
        have B8 := Aside0.mk (below_step B7.out hb)
        clear hb
        go_wp2_with fail
        refine (N1.out _ (HG.out _ B8.out)).mono ?_
        rintro e' w9 ⟨rfl, hb⟩
        have B9 := Aside0.mk (below_step B8.out hb)
        clear hb
        go_wp2_with fail
        refine (N3.out _ (HG.out _ B9.out)).mono ?_
        rintro e' w10 ⟨rfl, hb⟩
        have B10 := Aside0.mk (below_step B9.out hb)
        clear hb
        go_wp2_with fail
        refine (name_q u 0 _).mono ?_
        rintro e' w11 ⟨rfl, rfl⟩
        go_wp2
        go_ret
        exact ⟨rfl, B10.out⟩
      · have huv1 : ((u : Int) == (v : Int)) = false := beq_eq_false_iff_ne.mpr (by omega)
        have E1 := E12.out
        have E3 := E13.out
        rw [decide_eq_false huv] at E1
        go_wp2_with fail
        refine (N1.out _ (HG.out _ B6.out)).mono ?_
        rintro e' w7 ⟨rfl, hb⟩
        have B7 := Aside0.mk (below_step B6.out hb)
        clear hb
        go_wp2_with fail
        refine (N2.out _ (HG.out _ B7.out)).mono ?_
        rintro e' w8 ⟨rfl, hb⟩
        have B8 := Aside0.mk (below_step B7.out hb)
        clear hb
        go_wp2_with fail
        refine (N1.out _ (HG.out _ B8.out)).mono ?_
        rintro e' w9 ⟨rfl, hb⟩
        have B9 := Aside0.mk (below_step B8.out hb)
        clear hb
        go_wp2_with fail
        refine (N3.out _ (HG.out _ B9.out)).mono ?_
        rintro e' w10 ⟨rfl, hb⟩
        have B10 := Aside0.mk (below_step B9.out hb)
        clear hb
        go_wp2_with fail
        refine (name_q u 0 _).mono ?_
        rintro e' w11 ⟨rfl, rfl⟩
        go_wp2
        go_ret
        exact ⟨rfl, B10.out⟩
    · have e2 : decide (pg < 1000) = false := decide_eq_false hp2
      by_cases huv : u = v
      · subst huv
        have E1 := E12.out
        have E3 := E13.out
        rw [decide_eq_true rfl] at E1
        go_wp2_with fail
        refine (N1.out _ (HG.out _ B6.out)).mono ?_
        rintro e' w7 ⟨rfl, hb⟩
        have B7 := Aside0.mk (below_step B6.out hb)
        clear hb
        go_wp2_with fail
        refine (N2.out _ (HG.out _ B7.out)).mono ?_
        rintro e' w8 ⟨rfl, hb⟩
        have B8 := Aside0.mk (below_step B7.out hb)
        clear hb
        go_wp2_with fail
        refine (N1.out _ (HG.out _ B8.out)).mono ?_
        rintro e' w9 ⟨rfl, hb⟩
        have B9 := Aside0.mk (below_step B8.out hb)
        clear hb
        go_wp2_with fail
        refine (N3.out _ (HG.out _ B9.out)).mono ?_
        rintro e' w10 ⟨rfl, hb⟩
        have B10 := Aside0.mk (below_step B9.out hb)
        clear hb
        go_wp2_with fail
        refine (name_q u 0 _).mono ?_
        rintro e' w11 ⟨rfl, rfl⟩
        go_wp2
        go_ret
        exact ⟨rfl, B10.out⟩
      · have huv1 : ((u : Int) == (v : Int)) = false := beq_eq_false_iff_ne.mpr (by omega)
        have E1 := E12.out
        have E3 := E13.out
        rw [decide_eq_false huv] at E1
        go_wp2_with fail
        refine (N1.out _ (HG.out _ B6.out)).mono ?_
        rintro e' w7 ⟨rfl, hb⟩
        have B7 := Aside0.mk (below_step B6.out hb)
        clear hb
        go_wp2_with fail
        refine (N2.out _ (HG.out _ B7.out)).mono ?_
        rintro e' w8 ⟨rfl, hb⟩
        have B8 := Aside0.mk (below_step B7.out hb)
        clear hb
        go_wp2_with fail
        refine (N1.out _ (HG.out _ B8.out)).mono ?_
        rintro e' w9 ⟨rfl, hb⟩
        have B9 := Aside0.mk (below_step B8.out hb)
        clear hb
        go_wp2_with fail
        refine (N3.out _ (HG.out _ B9.out)).mono ?_
        rintro e' w10 ⟨rfl, hb⟩
        have B10 := Aside0.mk (below_step B9.out hb)
        clear hb
        go_wp2_with fail
        refine (name_q u 0 _).mono ?_
        rintro e' w11 ⟨rfl, rfl⟩
        go_wp2
        go_ret
        exact ⟨rfl, B10.out⟩
  · have e1 : decide (0 ≤ pg) = false := decide_eq_false hp
    by_cases huv : u = v
    · subst huv
      have E1 := E12.out
      have E3 := E13.out
      rw [decide_eq_true rfl] at E1
      go_wp2_with fail
      refine (N1.out _ (HG.out _ B6.out)).mono ?_
      rintro e' w7 ⟨rfl, hb⟩
      have B7 := Aside0.mk (below_step B6.out hb)
      clear hb
      go_wp2_with fail
      refine (N2.out _ (HG.out _ B7.out)).mono ?_
      rintro e' w8 ⟨rfl, hb⟩
      have B8 := Aside0.mk (below_step B7.out hb)
      clear hb
      go_wp2_with fail
      refine (N1.out _ (HG.out _ B8.out)).mono ?_
      rintro e' w9 ⟨rfl, hb⟩
      have B9 := Aside0.mk (below_step B8.out hb)
      clear hb
      go_wp2_with fail
      refine (N3.out _ (HG.out _ B9.out)).mono ?_
      rintro e' w10 ⟨rfl, hb⟩
      have B10 := Aside0.mk (below_step B9.out hb)
      clear hb
      go_wp2_with fail
      refine (name_q u 0 _).mono ?_
      rintro e' w11 ⟨rfl, rfl⟩
      go_wp2
      go_ret
      exact ⟨rfl, B10.out⟩
    · have huv1 : ((u : Int) == (v : Int)) = false := beq_eq_false_iff_ne.mpr (by omega)
      have E1 := E12.out
      have E3 := E13.out
      rw [decide_eq_false huv] at E1
      go_wp2_with fail
      refine (N1.out _ (HG.out _ B6.out)).mono ?_
      rintro e' w7 ⟨rfl, hb⟩
      have B7 := Aside0.mk (below_step B6.out hb)
      clear hb
      go_wp2_with fail
      refine (N2.out _ (HG.out _ B7.out)).mono ?_
      rintro e' w8 ⟨rfl, hb⟩
      have B8 := Aside0.mk (below_step B7.out hb)
      clear hb
      go_wp2_with fail
      refine (N1.out _ (HG.out _ B8.out)).mono ?_
      rintro e' w9 ⟨rfl, hb⟩
      have B9 := Aside0.mk (below_step B8.out hb)
      clear hb
      go_wp2_with fail
      refine (N3.out _ (HG.out _ B9.out)).mono ?_
      rintro e' w10 ⟨rfl, hb⟩
      have B10 := Aside0.mk (below_step B9.out hb)
      clear hb
      go_wp2_with fail
      refine (name_q u 0 _).mono ?_
      rintro e' w11 ⟨rfl, rfl⟩
      go_wp2
      go_ret
      exact ⟨rfl, B10.out⟩

set_option maxHeartbeats 1600000 in
set_option maxRecDepth 100000 in
theorem back_y2 (a b c d e f pos pg : Int) (x u v : Nat) (w : World) (hg : Gl w) (ha : a < 18446744073709551616) (hx : x < 256) (hu : u < 18446744073709551616) (hv : v < 18446744073709551616) (hpg : pg ≤ 9223372036854775807) (hm : mayB a b c d e f = true) (hwr : 35 ≤ pos) :
    Calls Tryd.prog 4 #[.agg #[.int .u64 a, .int .i64 b, .int .i64 c, .int .i64 d, .int .i64 e, .int .i64 f], .int .i64 pos, .int .u8 x, .int .u64 u, .int .u64 v, .int .i64 pg] w fun e' w' => e' = .returned (.bool true) ∧ Below w.heap.size w w' := by
  have hu24 := Tryd.underlying24
  have hu30 := Tryd.underlying30
  have q1 := neq_code7
  have q2 := fun W => neq_meta a b c d e f W
  have HG := Aside0.mk (fun W (h : Below w.heap.size w W) => hg.below h)
  obtain ⟨s1, hs1⟩ : ∃ s : ByteArray, s = ⟨(nameW u 109).toArray⟩ := ⟨_, rfl⟩
  obtain ⟨s2, hs2⟩ : ∃ s : ByteArray, s = ⟨(nameW v 109).toArray⟩ := ⟨_, rfl⟩
  obtain ⟨s3, hs3⟩ : ∃ s : ByteArray, s = ⟨(nameW v 120).toArray⟩ := ⟨_, rfl⟩
  have N1 := Aside0.mk (fun W hW => name_w u 109 0 hu W hW (by decide))
  have N2 := Aside0.mk (fun W hW => name_w v 109 0 hv W hW (by decide))
  have N3 := Aside0.mk (fun W hW => name_w v 120 0 hv W hW (by decide))
  have E12 := Aside0.mk (eql_names u v hu hv)
  have E13 := Aside0.mk (neq_names u v hu hv)
  rw [← hs1] at N1 E12 E13
  rw [← hs2] at N2 E12
  rw [← hs3] at N3 E13
  clear hs1 hs2 hs3
  obtain ⟨n, hn1, hn⟩ : ∃ n : Nat, n < 1000 ∧ ((pg < 0 ∧ n = 0) ∨ (0 ≤ pg ∧ (n : Int) = pg % 1000)) := by
    by_cases h : pg < 0
    · exact ⟨0, by decide, Or.inl ⟨h, rfl⟩⟩
    · exact ⟨(pg % 1000).toNat, by omega, Or.inr ⟨by omega, by omega⟩⟩
  have HNP := Aside0.mk (fun W hW => name_p u pg n hu W hW hpg hn)
  have HPP := Aside0.mk (fun W hW => parse_p u n hu hn1 W hW)
  obtain ⟨s4, hs4⟩ : ∃ s : ByteArray, s = ⟨(nameP u n).toArray⟩ := ⟨_, rfl⟩
  rw [← hs4] at HNP HPP
  clear hs4
  have HO : MetaOk a b c d e f := of_decide_eq_true hm
  have hfl : (flatB (metaF a b c d e f)).length = 31 := by simp [flatB, metaF, beN_length]
  have HPut := Aside0.mk (fun W => meta_Put_yes a b c d e f W hm ha)
  obtain ⟨l, hl⟩ : ∃ l, flatB (metaF a b c d e f) = l := ⟨_, rfl⟩
  have hby : Bytes l := by rw [← hl]; exact flatB_bytes _
  have HS := Aside0.mk (show metaBytes a b c d e f = sealed l by rw [← hl]; rfl)
  rw [HS.out] at HPut
  have HM := Aside0.mk (fun {v0 v1 v2 v3 v4 v5 i : Nat} {bad : Int} => get1_of_put (v0 := v0) (v1 := v1) (v2 := v2) (v3 := v3) (v4 := v4) (v5 := v5) (i := i) (bad := bad) HO ha)
  rw [hl] at hfl
  have HL := Aside0.mk hl
  clear hl
  have HMay := Aside0.mk hm
  clear hm ha hg
  obtain ⟨W0, hW0⟩ : ∃ W0, w.alloc (.cells #[.int .u64 a, .int .i64 b, .int .i64 c, .int .i64 d, .int .i64 e, .int .i64 f] 24) = W0 := ⟨_, rfl⟩
  have B0 := Aside0.mk (show Below w.heap.size w W0 by rw [← hW0]; exact below_alloc (Below.refl _ _) _)
  have K0 := Aside0.mk (show W0.heap[w.heap.size]? = some (.cells #[.int .u64 a, .int .i64 b, .int .i64 c, .int .i64 d, .int .i64 e, .int .i64 f] 24 (0, 0)) by rw [← hW0]; exact heap_alloc_new w _)
  have HW0 := Aside0.mk hW0
  clear hW0
  go_enter Tryd.func4, Tryd.ntmps4
  go_wp2_with fail
  rw [HW0.out]
  refine (up_true _ (HG.out _ B0.out)).mono ?_
  rintro e' w1 ⟨rfl, hb⟩
  have B1 := Aside0.mk (below_step B0.out hb)
  have K1 := Aside0.mk ((hb.block _ (blk_lt K0.out)).trans K0.out)
  clear hb
  have z0 : w1.cell? ⟨w.heap.size, 0, none⟩ = some (.int .u64 a) := (blk_cell K1.out 0).trans rfl
  have z1 : w1.cell? ⟨w.heap.size, 1, none⟩ = some (.int .i64 b) := (blk_cell K1.out 1).trans rfl
  have z2 : w1.cell? ⟨w.heap.size, 2, none⟩ = some (.int .i64 c) := (blk_cell K1.out 2).trans rfl
  have z3 : w1.cell? ⟨w.heap.size, 3, none⟩ = some (.int .i64 d) := (blk_cell K1.out 3).trans rfl
  have z4 : w1.cell? ⟨w.heap.size, 4, none⟩ = some (.int .i64 e) := (blk_cell K1.out 4).trans rfl
  have z5 : w1.cell? ⟨w.heap.size, 5, none⟩ = some (.int .i64 f) := (blk_cell K1.out 5).trans rfl
  go_wp2_with fail
  refine (HPut.out _).mono ?_
  rintro e' w2 ⟨p, rfl, hp, hb⟩
  have B2 := Aside0.mk (below_step B1.out hb)
  have K2 := Aside0.mk ((hb.block _ (blk_lt K1.out)).trans K1.out)
  obtain ⟨A, cp, rfl, hcp, hC⟩ := Kd.R_reads hp
  have h35 : (sealed l).length = 35 := by rw [seal_length, hfl]
  have HG2 := Aside0.mk (get_read A cp (sealed l) l w2 hC hcp hby (by omega) rfl)
  rw [h35] at HG2 hcp hp
  rw [h35]
  have HP := Aside0.mk hp
  have H35 := Aside0.mk h35
  clear h35
  clear hb hp hC z0 z1 z2 z3 z4 z5
  go_wp2_with fail
  refine HG2.out.mono ?_
  rintro e' w3 ⟨v0, v1, v2, v3, v4, v5, i, bad, hrd, hi, rfl, hb⟩
  obtain ⟨y0, y1, y2, y3, y4, y5, y6, y7⟩ := HM.out (by rw [HL.out]; exact hrd)
  rw [HL.out] at y6
  rw [y0, y1, y2, y3, y4, y5, y6, y7, if_pos ⟨HMay.out, by decide, Nat.le_refl _⟩]
  have B3 := Aside0.mk (below_step B2.out hb)
  have K3 := Aside0.mk ((hb.block _ (blk_lt K2.out)).trans K2.out)
  have HC3 := Aside0.mk (Kd.R_below HP.out hb)
  clear hrd hi y0 y1 y2 y3 y4 y5 y6 y7 HG2 HM hb
  have z0 : w3.cell? ⟨w.heap.size, 0, none⟩ = some (.int .u64 a) := (blk_cell K3.out 0).trans rfl
  have z1 : w3.cell? ⟨w.heap.size, 1, none⟩ = some (.int .i64 b) := (blk_cell K3.out 1).trans rfl
  have z2 : w3.cell? ⟨w.heap.size, 2, none⟩ = some (.int .i64 c) := (blk_cell K3.out 2).trans rfl
  have z3 : w3.cell? ⟨w.heap.size, 3, none⟩ = some (.int .i64 d) := (blk_cell K3.out 3).trans rfl
  have z4 : w3.cell? ⟨w.heap.size, 4, none⟩ = some (.int .i64 e) := (blk_cell K3.out 4).trans rfl
  have z5 : w3.cell? ⟨w.heap.size, 5, none⟩ = some (.int .i64 f) := (blk_cell K3.out 5).trans rfl
  have hlt : w.heap.size < w3.heap.size := blk_lt K3.out
  have hne : w.heap.size ≠ w3.heap.size := Nat.ne_of_lt hlt
  have hne' : ¬ w3.heap.size = w.heap.size := fun e => hne e.symm
  have B4 := Aside0.mk (B3.out.alloc (B3.out.size) (.cells #[.int .u64 a, .int .i64 b, .int .i64 c, .int .i64 d, .int .i64 e, .int .i64 f] 24))
  have e0 : decide (0 ≤ pos) = true := decide_eq_true (by omega)
  have e1 : decide (pos < 35) = false := decide_eq_false (by omega)
  obtain ⟨w4, hw4⟩ : ∃ w4, w3.alloc (.cells #[.int .u64 a, .int .i64 b, .int .i64 c, .int .i64 d, .int .i64 e, .int .i64 f] 24) = w4 := ⟨_, rfl⟩
  rw [hw4] at B4
  have HW4 := Aside0.mk hw4
  clear hw4
  go_wp2_with fail
  rw [HW4.out]
  refine (HNP.out _ (HG.out _ B4.out)).mono ?_
  rintro e' w5 ⟨rfl, hb⟩
  have B5 := Aside0.mk (below_step B4.out hb)
  clear hb
  go_wp2_with fail
  refine (HPP.out _ (HG.out _ B5.out)).mono ?_
  rintro e' w6 ⟨rfl, hb⟩
  have B6 := Aside0.mk (below_step B5.out hb)
  clear hb
  by_cases hp : 0 ≤ pg
  · by_cases hp2 : pg < 1000
    · have e : pg = n := by omega
      subst e
      by_cases huv : u = v
      · subst huv
        have E1 := E12.out
        have E3 := E13.out
        rw [decide_eq_true rfl] at E1
        go_wp2_with fail
        refine (N1.out _ (HG.out _ B6.out)).mono ?_
        rintro e' w7 ⟨rfl, hb⟩
        have B7 := Aside0.mk (below_step B6.out hb)
        clear hb
        go_wp2_with fail
        refine (N2.out _ (HG.out _ B7.out)).mono ?_
        rintro e' w8 ⟨rfl, hb⟩
        have B8 := Aside0.mk (below_step B7.out hb)
        clear hb
        go_wp2_with fail
        refine (N1.out _ (HG.out _ B8.out)).mono ?_
        rintro e' w9 ⟨rfl, hb⟩
        have B9 := Aside0.mk (below_step B8.out hb)
        clear hb
        go_wp2_with fail
        refine (N3.out _ (HG.out _ B9.out)).mono ?_
        rintro e' w10 ⟨rfl, hb⟩
        have B10 := Aside0.mk (below_step B9.out hb)
        clear hb
        go_wp2_with fail
        refine (name_q u 0 _).mono ?_
        rintro e' w11 ⟨rfl, rfl⟩
        go_wp2
        go_ret
        exact ⟨rfl, B10.out⟩
      · have huv1 : ((u : Int) == (v : Int)) = false := beq_eq_false_iff_ne.mpr (by omega)
        have E1 := E12.out
        have E3 := E13.out
        rw [decide_eq_false huv] at E1
        go_wp2_with fail
        refine (N1.out _ (HG.out _ B6.out)).mono ?_
        rintro e' w7 ⟨rfl, hb⟩
        have B7 := Aside0.mk (below_step B6.out hb)
        clear hb
        go_wp2_with fail
        refine (N2.out _ (HG.out _ B7.out)).mono ?_
        rintro e' w8 ⟨rfl, hb⟩
        have B8 := Aside0.mk (below_step B7.out hb)
        clear hb
        go_wp2_with fail
        refine (N1.out _ (HG.out _ B8.out)).mono ?_
        rintro e' w9 ⟨rfl, hb⟩
        have B9 := Aside0.mk (below_step B8.out hb)
        clear hb
        go_wp2_with fail
        refine (N3.out _ (HG.out _ B9.out)).mono ?_
        rintro e' w10 ⟨rfl, hb⟩
        have B10 := Aside0.mk (below_step B9.out hb)
        clear hb
        go_wp2_with fail
        refine (name_q u 0 _).mono ?_
        rintro e' w11 ⟨rfl, rfl⟩
        go_wp2
        go_ret
        exact ⟨rfl, B10.out⟩
    · have e2 : decide (pg < 1000) = false := decide_eq_false hp2
      by_cases huv : u = v
      · subst huv
        have E1 := E12.out
        have E3 := E13.out
        rw [decide_eq_true rfl] at E1
        go_wp2_with fail
        refine (N1.out _ (HG.out _ B6.out)).mono ?_
        rintro e' w7 ⟨rfl, hb⟩
        have B7 := Aside0.mk (below_step B6.out hb)
        clear hb
        go_wp2_with fail
        refine (N2.out _ (HG.out _ B7.out)).mono ?_
        rintro e' w8 ⟨rfl, hb⟩
        have B8 := Aside0.mk (below_step B7.out hb)
        clear hb
        go_wp2_with fail
        refine (N1.out _ (HG.out _ B8.out)).mono ?_
        rintro e' w9 ⟨rfl, hb⟩
        have B9 := Aside0.mk (below_step B8.out hb)
        clear hb
        go_wp2_with fail
        refine (N3.out _ (HG.out _ B9.out)).mono ?_
        rintro e' w10 ⟨rfl, hb⟩
        have B10 := Aside0.mk (below_step B9.out hb)
        clear hb
        go_wp2_with fail
        refine (name_q u 0 _).mono ?_
        rintro e' w11 ⟨rfl, rfl⟩
        go_wp2
        go_ret
        exact ⟨rfl, B10.out⟩
      · have huv1 : ((u : Int) == (v : Int)) = false := beq_eq_false_iff_ne.mpr (by omega)
        have E1 := E12.out
        have E3 := E13.out
        rw [decide_eq_false huv] at E1
        go_wp2_with fail
        refine (N1.out _ (HG.out _ B6.out)).mono ?_
        rintro e' w7 ⟨rfl, hb⟩
        have B7 := Aside0.mk (below_step B6.out hb)
        clear hb
        go_wp2_with fail
        refine (N2.out _ (HG.out _ B7.out)).mono ?_
        rintro e' w8 ⟨rfl, hb⟩
        have B8 := Aside0.mk (below_step B7.out hb)
        clear hb
        go_wp2_with fail
        refine (N1.out _ (HG.out _ B8.out)).mono ?_
        rintro e' w9 ⟨rfl, hb⟩
        have B9 := Aside0.mk (below_step B8.out hb)
        clear hb
        go_wp2_with fail
        refine (N3.out _ (HG.out _ B9.out)).mono ?_
        rintro e' w10 ⟨rfl, hb⟩
        have B10 := Aside0.mk (below_step B9.out hb)
        clear hb
        go_wp2_with fail
        refine (name_q u 0 _).mono ?_
        rintro e' w11 ⟨rfl, rfl⟩
        go_wp2
        go_ret
        exact ⟨rfl, B10.out⟩
  · have e1 : decide (0 ≤ pg) = false := decide_eq_false hp
    by_cases huv : u = v
    · subst huv
      have E1 := E12.out
      have E3 := E13.out
      rw [decide_eq_true rfl] at E1
      go_wp2_with fail
      refine (N1.out _ (HG.out _ B6.out)).mono ?_
      rintro e' w7 ⟨rfl, hb⟩
      have B7 := Aside0.mk (below_step B6.out hb)
      clear hb
      go_wp2_with fail
      refine (N2.out _ (HG.out _ B7.out)).mono ?_
      rintro e' w8 ⟨rfl, hb⟩
      have B8 := Aside0.mk (below_step B7.out hb)
      clear hb
      go_wp2_with fail
      refine (N1.out _ (HG.out _ B8.out)).mono ?_
      rintro e' w9 ⟨rfl, hb⟩
      have B9 := Aside0.mk (below_step B8.out hb)
      clear hb
      go_wp2_with fail
      refine (N3.out _ (HG.out _ B9.out)).mono ?_
      rintro e' w10 ⟨rfl, hb⟩
      have B10 := Aside0.mk (below_step B9.out hb)
      clear hb
      go_wp2_with fail
      refine (name_q u 0 _).mono ?_
      rintro e' w11 ⟨rfl, rfl⟩
      go_wp2
      go_ret
      exact ⟨rfl, B10.out⟩
    · have huv1 : ((u : Int) == (v : Int)) = false := beq_eq_false_iff_ne.mpr (by omega)
      have E1 := E12.out
      have E3 := E13.out
      rw [decide_eq_false huv] at E1
      go_wp2_with fail
      refine (N1.out _ (HG.out _ B6.out)).mono ?_
      rintro e' w7 ⟨rfl, hb⟩
      have B7 := Aside0.mk (below_step B6.out hb)
      clear hb
      go_wp2_with fail
      refine (N2.out _ (HG.out _ B7.out)).mono ?_
      rintro e' w8 ⟨rfl, hb⟩
      have B8 := Aside0.mk (below_step B7.out hb)
      clear hb
      go_wp2_with fail
      refine (N1.out _ (HG.out _ B8.out)).mono ?_
      rintro e' w9 ⟨rfl, hb⟩
      have B9 := Aside0.mk (below_step B8.out hb)
      clear hb
      go_wp2_with fail
      refine (N3.out _ (HG.out _ B9.out)).mono ?_
      rintro e' w10 ⟨rfl, hb⟩
      have B10 := Aside0.mk (below_step B9.out hb)
      clear hb
      go_wp2_with fail
      refine (name_q u 0 _).mono ?_
      rintro e' w11 ⟨rfl, rfl⟩
      go_wp2
      go_ret
      exact ⟨rfl, B10.out⟩

set_option maxHeartbeats 1600000 in
set_option maxRecDepth 100000 in
theorem back_y3 (a b c d e f pos pg : Int) (x u v : Nat) (w : World) (hg : Gl w) (ha : a < 18446744073709551616) (hx : x < 256) (hu : u < 18446744073709551616) (hv : v < 18446744073709551616) (hpg : pg ≤ 9223372036854775807) (hm : mayB a b c d e f = true) (hwr : 0 ≤ pos ∧ pos < 35 ∧ x = 0) :
    Calls Tryd.prog 4 #[.agg #[.int .u64 a, .int .i64 b, .int .i64 c, .int .i64 d, .int .i64 e, .int .i64 f], .int .i64 pos, .int .u8 x, .int .u64 u, .int .u64 v, .int .i64 pg] w fun e' w' => e' = .returned (.bool true) ∧ Below w.heap.size w w' := by
  have hu24 := Tryd.underlying24
  have hu30 := Tryd.underlying30
  have q1 := neq_code7
  have q2 := fun W => neq_meta a b c d e f W
  have HG := Aside0.mk (fun W (h : Below w.heap.size w W) => hg.below h)
  obtain ⟨s1, hs1⟩ : ∃ s : ByteArray, s = ⟨(nameW u 109).toArray⟩ := ⟨_, rfl⟩
  obtain ⟨s2, hs2⟩ : ∃ s : ByteArray, s = ⟨(nameW v 109).toArray⟩ := ⟨_, rfl⟩
  obtain ⟨s3, hs3⟩ : ∃ s : ByteArray, s = ⟨(nameW v 120).toArray⟩ := ⟨_, rfl⟩
  have N1 := Aside0.mk (fun W hW => name_w u 109 0 hu W hW (by decide))
  have N2 := Aside0.mk (fun W hW => name_w v 109 0 hv W hW (by decide))
  have N3 := Aside0.mk (fun W hW => name_w v 120 0 hv W hW (by decide))
  have E12 := Aside0.mk (eql_names u v hu hv)
  have E13 := Aside0.mk (neq_names u v hu hv)
  rw [← hs1] at N1 E12 E13
  rw [← hs2] at N2 E12
  rw [← hs3] at N3 E13
  clear hs1 hs2 hs3
  obtain ⟨n, hn1, hn⟩ : ∃ n : Nat, n < 1000 ∧ ((pg < 0 ∧ n = 0) ∨ (0 ≤ pg ∧ (n : Int) = pg % 1000)) := by
    by_cases h : pg < 0
    · exact ⟨0, by decide, Or.inl ⟨h, rfl⟩⟩
    · exact ⟨(pg % 1000).toNat, by omega, Or.inr ⟨by omega, by omega⟩⟩
  have HNP := Aside0.mk (fun W hW => name_p u pg n hu W hW hpg hn)
  have HPP := Aside0.mk (fun W hW => parse_p u n hu hn1 W hW)
  obtain ⟨s4, hs4⟩ : ∃ s : ByteArray, s = ⟨(nameP u n).toArray⟩ := ⟨_, rfl⟩
  rw [← hs4] at HNP HPP
  clear hs4
  have HO : MetaOk a b c d e f := of_decide_eq_true hm
  have hfl : (flatB (metaF a b c d e f)).length = 31 := by simp [flatB, metaF, beN_length]
  have HPut := Aside0.mk (fun W => meta_Put_yes a b c d e f W hm ha)
  obtain ⟨l, hl⟩ : ∃ l, flatB (metaF a b c d e f) = l := ⟨_, rfl⟩
  have hby : Bytes l := by rw [← hl]; exact flatB_bytes _
  have HS := Aside0.mk (show metaBytes a b c d e f = sealed l by rw [← hl]; rfl)
  rw [HS.out] at HPut
  have HM := Aside0.mk (fun {v0 v1 v2 v3 v4 v5 i : Nat} {bad : Int} => get1_of_put (v0 := v0) (v1 := v1) (v2 := v2) (v3 := v3) (v4 := v4) (v5 := v5) (i := i) (bad := bad) HO ha)
  rw [hl] at hfl
  have HL := Aside0.mk hl
  clear hl
  have HMay := Aside0.mk hm
  clear hm ha hg
  obtain ⟨W0, hW0⟩ : ∃ W0, w.alloc (.cells #[.int .u64 a, .int .i64 b, .int .i64 c, .int .i64 d, .int .i64 e, .int .i64 f] 24) = W0 := ⟨_, rfl⟩
  have B0 := Aside0.mk (show Below w.heap.size w W0 by rw [← hW0]; exact below_alloc (Below.refl _ _) _)
  have K0 := Aside0.mk (show W0.heap[w.heap.size]? = some (.cells #[.int .u64 a, .int .i64 b, .int .i64 c, .int .i64 d, .int .i64 e, .int .i64 f] 24 (0, 0)) by rw [← hW0]; exact heap_alloc_new w _)
  have HW0 := Aside0.mk hW0
  clear hW0
  go_enter Tryd.func4, Tryd.ntmps4
  go_wp2_with fail
  rw [HW0.out]
  refine (up_true _ (HG.out _ B0.out)).mono ?_
  rintro e' w1 ⟨rfl, hb⟩
  have B1 := Aside0.mk (below_step B0.out hb)
  have K1 := Aside0.mk ((hb.block _ (blk_lt K0.out)).trans K0.out)
  clear hb
  have z0 : w1.cell? ⟨w.heap.size, 0, none⟩ = some (.int .u64 a) := (blk_cell K1.out 0).trans rfl
  have z1 : w1.cell? ⟨w.heap.size, 1, none⟩ = some (.int .i64 b) := (blk_cell K1.out 1).trans rfl
  have z2 : w1.cell? ⟨w.heap.size, 2, none⟩ = some (.int .i64 c) := (blk_cell K1.out 2).trans rfl
  have z3 : w1.cell? ⟨w.heap.size, 3, none⟩ = some (.int .i64 d) := (blk_cell K1.out 3).trans rfl
  have z4 : w1.cell? ⟨w.heap.size, 4, none⟩ = some (.int .i64 e) := (blk_cell K1.out 4).trans rfl
  have z5 : w1.cell? ⟨w.heap.size, 5, none⟩ = some (.int .i64 f) := (blk_cell K1.out 5).trans rfl
  go_wp2_with fail
  refine (HPut.out _).mono ?_
  rintro e' w2 ⟨p, rfl, hp, hb⟩
  have B2 := Aside0.mk (below_step B1.out hb)
  have K2 := Aside0.mk ((hb.block _ (blk_lt K1.out)).trans K1.out)
  obtain ⟨A, cp, rfl, hcp, hC⟩ := Kd.R_reads hp
  have h35 : (sealed l).length = 35 := by rw [seal_length, hfl]
  have HG2 := Aside0.mk (get_read A cp (sealed l) l w2 hC hcp hby (by omega) rfl)
  rw [h35] at HG2 hcp hp
  rw [h35]
  have HP := Aside0.mk hp
  have H35 := Aside0.mk h35
  clear h35
  clear hb hp hC z0 z1 z2 z3 z4 z5
  go_wp2_with fail
  refine HG2.out.mono ?_
  rintro e' w3 ⟨v0, v1, v2, v3, v4, v5, i, bad, hrd, hi, rfl, hb⟩
  obtain ⟨y0, y1, y2, y3, y4, y5, y6, y7⟩ := HM.out (by rw [HL.out]; exact hrd)
  rw [HL.out] at y6
  rw [y0, y1, y2, y3, y4, y5, y6, y7, if_pos ⟨HMay.out, by decide, Nat.le_refl _⟩]
  have B3 := Aside0.mk (below_step B2.out hb)
  have K3 := Aside0.mk ((hb.block _ (blk_lt K2.out)).trans K2.out)
  have HC3 := Aside0.mk (Kd.R_below HP.out hb)
  clear hrd hi y0 y1 y2 y3 y4 y5 y6 y7 HG2 HM hb
  have z0 : w3.cell? ⟨w.heap.size, 0, none⟩ = some (.int .u64 a) := (blk_cell K3.out 0).trans rfl
  have z1 : w3.cell? ⟨w.heap.size, 1, none⟩ = some (.int .i64 b) := (blk_cell K3.out 1).trans rfl
  have z2 : w3.cell? ⟨w.heap.size, 2, none⟩ = some (.int .i64 c) := (blk_cell K3.out 2).trans rfl
  have z3 : w3.cell? ⟨w.heap.size, 3, none⟩ = some (.int .i64 d) := (blk_cell K3.out 3).trans rfl
  have z4 : w3.cell? ⟨w.heap.size, 4, none⟩ = some (.int .i64 e) := (blk_cell K3.out 4).trans rfl
  have z5 : w3.cell? ⟨w.heap.size, 5, none⟩ = some (.int .i64 f) := (blk_cell K3.out 5).trans rfl
  have hlt : w.heap.size < w3.heap.size := blk_lt K3.out
  have hne : w.heap.size ≠ w3.heap.size := Nat.ne_of_lt hlt
  have hne' : ¬ w3.heap.size = w.heap.size := fun e => hne e.symm
  have B4 := Aside0.mk (B3.out.alloc (B3.out.size) (.cells #[.int .u64 a, .int .i64 b, .int .i64 c, .int .i64 d, .int .i64 e, .int .i64 f] 24))
  obtain ⟨h0, h1, rfl⟩ := hwr
  obtain ⟨w4, hw4⟩ : ∃ w4, w3.alloc (.cells #[.int .u64 a, .int .i64 b, .int .i64 c, .int .i64 d, .int .i64 e, .int .i64 f] 24) = w4 := ⟨_, rfl⟩
  rw [hw4] at B4
  have HW4 := Aside0.mk hw4
  clear hw4
  go_wp2_with fail
  rw [HW4.out]
  refine (HNP.out _ (HG.out _ B4.out)).mono ?_
  rintro e' w5 ⟨rfl, hb⟩
  have B5 := Aside0.mk (below_step B4.out hb)
  clear hb
  go_wp2_with fail
  refine (HPP.out _ (HG.out _ B5.out)).mono ?_
  rintro e' w6 ⟨rfl, hb⟩
  have B6 := Aside0.mk (below_step B5.out hb)
  clear hb
  by_cases hp : 0 ≤ pg
  · by_cases hp2 : pg < 1000
    · have e : pg = n := by omega
      subst e
      by_cases huv : u = v
      · subst huv
        have E1 := E12.out
        have E3 := E13.out
        rw [decide_eq_true rfl] at E1
        go_wp2_with fail
        refine (N1.out _ (HG.out _ B6.out)).mono ?_
        rintro e' w7 ⟨rfl, hb⟩
        have B7 := Aside0.mk (below_step B6.out hb)
        clear hb
        go_wp2_with fail
        refine (N2.out _ (HG.out _ B7.out)).mono ?_
        rintro e' w8 ⟨rfl, hb⟩
        have B8 := Aside0.mk (below_step B7.out hb)
        clear hb
        go_wp2_with fail
        refine (N1.out _ (HG.out _ B8.out)).mono ?_
        rintro e' w9 ⟨rfl, hb⟩
        have B9 := Aside0.mk (below_step B8.out hb)
        clear hb
        go_wp2_with fail
        refine (N3.out _ (HG.out _ B9.out)).mono ?_
        rintro e' w10 ⟨rfl, hb⟩
        have B10 := Aside0.mk (below_step B9.out hb)
        clear hb
        go_wp2_with fail
        refine (name_q u 0 _).mono ?_
        rintro e' w11 ⟨rfl, rfl⟩
        go_wp2
        go_ret
        exact ⟨rfl, B10.out⟩
      · have huv1 : ((u : Int) == (v : Int)) = false := beq_eq_false_iff_ne.mpr (by omega)
        have E1 := E12.out
        have E3 := E13.out
        rw [decide_eq_false huv] at E1
        go_wp2_with fail
        refine (N1.out _ (HG.out _ B6.out)).mono ?_
        rintro e' w7 ⟨rfl, hb⟩
        have B7 := Aside0.mk (below_step B6.out hb)
        clear hb
        go_wp2_with fail
        refine (N2.out _ (HG.out _ B7.out)).mono ?_
        rintro e' w8 ⟨rfl, hb⟩
        have B8 := Aside0.mk (below_step B7.out hb)
        clear hb
        go_wp2_with fail
        refine (N1.out _ (HG.out _ B8.out)).mono ?_
        rintro e' w9 ⟨rfl, hb⟩
        have B9 := Aside0.mk (below_step B8.out hb)
        clear hb
        go_wp2_with fail
        refine (N3.out _ (HG.out _ B9.out)).mono ?_
        rintro e' w10 ⟨rfl, hb⟩
        have B10 := Aside0.mk (below_step B9.out hb)
        clear hb
        go_wp2_with fail
        refine (name_q u 0 _).mono ?_
        rintro e' w11 ⟨rfl, rfl⟩
        go_wp2
        go_ret
        exact ⟨rfl, B10.out⟩
    · have e2 : decide (pg < 1000) = false := decide_eq_false hp2
      by_cases huv : u = v
      · subst huv
        have E1 := E12.out
        have E3 := E13.out
        rw [decide_eq_true rfl] at E1
        go_wp2_with fail
        refine (N1.out _ (HG.out _ B6.out)).mono ?_
        rintro e' w7 ⟨rfl, hb⟩
        have B7 := Aside0.mk (below_step B6.out hb)
        clear hb
        go_wp2_with fail
        refine (N2.out _ (HG.out _ B7.out)).mono ?_
        rintro e' w8 ⟨rfl, hb⟩
        have B8 := Aside0.mk (below_step B7.out hb)
        clear hb
        go_wp2_with fail
        refine (N1.out _ (HG.out _ B8.out)).mono ?_
        rintro e' w9 ⟨rfl, hb⟩
        have B9 := Aside0.mk (below_step B8.out hb)
        clear hb
        go_wp2_with fail
        refine (N3.out _ (HG.out _ B9.out)).mono ?_
        rintro e' w10 ⟨rfl, hb⟩
        have B10 := Aside0.mk (below_step B9.out hb)
        clear hb
        go_wp2_with fail
        refine (name_q u 0 _).mono ?_
        rintro e' w11 ⟨rfl, rfl⟩
        go_wp2
        go_ret
        exact ⟨rfl, B10.out⟩
      · have huv1 : ((u : Int) == (v : Int)) = false := beq_eq_false_iff_ne.mpr (by omega)
        have E1 := E12.out
        have E3 := E13.out
        rw [decide_eq_false huv] at E1
        go_wp2_with fail
        refine (N1.out _ (HG.out _ B6.out)).mono ?_
        rintro e' w7 ⟨rfl, hb⟩
        have B7 := Aside0.mk (below_step B6.out hb)
        clear hb
        go_wp2_with fail
        refine (N2.out _ (HG.out _ B7.out)).mono ?_
        rintro e' w8 ⟨rfl, hb⟩
        have B8 := Aside0.mk (below_step B7.out hb)
        clear hb
        go_wp2_with fail
        refine (N1.out _ (HG.out _ B8.out)).mono ?_
        rintro e' w9 ⟨rfl, hb⟩
        have B9 := Aside0.mk (below_step B8.out hb)
        clear hb
        go_wp2_with fail
        refine (N3.out _ (HG.out _ B9.out)).mono ?_
        rintro e' w10 ⟨rfl, hb⟩
        have B10 := Aside0.mk (below_step B9.out hb)
        clear hb
        go_wp2_with fail
        refine (name_q u 0 _).mono ?_
        rintro e' w11 ⟨rfl, rfl⟩
        go_wp2
        go_ret
        exact ⟨rfl, B10.out⟩
  · have e1 : decide (0 ≤ pg) = false := decide_eq_false hp
    by_cases huv : u = v
    · subst huv
      have E1 := E12.out
      have E3 := E13.out
      rw [decide_eq_true rfl] at E1
      go_wp2_with fail
      refine (N1.out _ (HG.out _ B6.out)).mono ?_
      rintro e' w7 ⟨rfl, hb⟩
      have B7 := Aside0.mk (below_step B6.out hb)
      clear hb
      go_wp2_with fail
      refine (N2.out _ (HG.out _ B7.out)).mono ?_
      rintro e' w8 ⟨rfl, hb⟩
      have B8 := Aside0.mk (below_step B7.out hb)
      clear hb
      go_wp2_with fail
      refine (N1.out _ (HG.out _ B8.out)).mono ?_
      rintro e' w9 ⟨rfl, hb⟩
      have B9 := Aside0.mk (below_step B8.out hb)
      clear hb
      go_wp2_with fail
      refine (N3.out _ (HG.out _ B9.out)).mono ?_
      rintro e' w10 ⟨rfl, hb⟩
      have B10 := Aside0.mk (below_step B9.out hb)
      clear hb
      go_wp2_with fail
      refine (name_q u 0 _).mono ?_
      rintro e' w11 ⟨rfl, rfl⟩
      go_wp2
      go_ret
      exact ⟨rfl, B10.out⟩
    · have huv1 : ((u : Int) == (v : Int)) = false := beq_eq_false_iff_ne.mpr (by omega)
      have E1 := E12.out
      have E3 := E13.out
      rw [decide_eq_false huv] at E1
      go_wp2_with fail
      refine (N1.out _ (HG.out _ B6.out)).mono ?_
      rintro e' w7 ⟨rfl, hb⟩
      have B7 := Aside0.mk (below_step B6.out hb)
      clear hb
      go_wp2_with fail
      refine (N2.out _ (HG.out _ B7.out)).mono ?_
      rintro e' w8 ⟨rfl, hb⟩
      have B8 := Aside0.mk (below_step B7.out hb)
      clear hb
      go_wp2_with fail
      refine (N1.out _ (HG.out _ B8.out)).mono ?_
      rintro e' w9 ⟨rfl, hb⟩
      have B9 := Aside0.mk (below_step B8.out hb)
      clear hb
      go_wp2_with fail
      refine (N3.out _ (HG.out _ B9.out)).mono ?_
      rintro e' w10 ⟨rfl, hb⟩
      have B10 := Aside0.mk (below_step B9.out hb)
      clear hb
      go_wp2_with fail
      refine (name_q u 0 _).mono ?_
      rintro e' w11 ⟨rfl, rfl⟩
      go_wp2
      go_ret
      exact ⟨rfl, B10.out⟩

set_option maxHeartbeats 1600000 in
set_option maxRecDepth 100000 in
theorem back_n (a b c d e f pos pg : Int) (x u v : Nat) (w : World) (hg : Gl w) (ha : a < 18446744073709551616) (hx : x < 256) (hu : u < 18446744073709551616) (hv : v < 18446744073709551616) (hpg : pg ≤ 9223372036854775807) (hm : mayB a b c d e f = false) :
    Calls Tryd.prog 4 #[.agg #[.int .u64 a, .int .i64 b, .int .i64 c, .int .i64 d, .int .i64 e, .int .i64 f], .int .i64 pos, .int .u8 x, .int .u64 u, .int .u64 v, .int .i64 pg] w fun e' w' => e' = .returned (.bool true) ∧ Below w.heap.size w w' := by
  have hu24 := Tryd.underlying24
  have hu30 := Tryd.underlying30
  have q1 := neq_code7
  have q2 := fun W => neq_meta a b c d e f W
  have HG := Aside0.mk (fun W (h : Below w.heap.size w W) => hg.below h)
  obtain ⟨s1, hs1⟩ : ∃ s : ByteArray, s = ⟨(nameW u 109).toArray⟩ := ⟨_, rfl⟩
  obtain ⟨s2, hs2⟩ : ∃ s : ByteArray, s = ⟨(nameW v 109).toArray⟩ := ⟨_, rfl⟩
  obtain ⟨s3, hs3⟩ : ∃ s : ByteArray, s = ⟨(nameW v 120).toArray⟩ := ⟨_, rfl⟩
  have N1 := Aside0.mk (fun W hW => name_w u 109 0 hu W hW (by decide))
  have N2 := Aside0.mk (fun W hW => name_w v 109 0 hv W hW (by decide))
  have N3 := Aside0.mk (fun W hW => name_w v 120 0 hv W hW (by decide))
  have E12 := Aside0.mk (eql_names u v hu hv)
  have E13 := Aside0.mk (neq_names u v hu hv)
  rw [← hs1] at N1 E12 E13
  rw [← hs2] at N2 E12
  rw [← hs3] at N3 E13
  clear hs1 hs2 hs3
  obtain ⟨n, hn1, hn⟩ : ∃ n : Nat, n < 1000 ∧ ((pg < 0 ∧ n = 0) ∨ (0 ≤ pg ∧ (n : Int) = pg % 1000)) := by
    by_cases h : pg < 0
    · exact ⟨0, by decide, Or.inl ⟨h, rfl⟩⟩
    · exact ⟨(pg % 1000).toNat, by omega, Or.inr ⟨by omega, by omega⟩⟩
  have HNP := Aside0.mk (fun W hW => name_p u pg n hu W hW hpg hn)
  have HPP := Aside0.mk (fun W hW => parse_p u n hu hn1 W hW)
  obtain ⟨s4, hs4⟩ : ∃ s : ByteArray, s = ⟨(nameP u n).toArray⟩ := ⟨_, rfl⟩
  rw [← hs4] at HNP HPP
  clear hs4
  have HPut := Aside0.mk (fun W => meta_Put_no a b c d e f W hm)
  clear hm ha hg
  obtain ⟨W0, hW0⟩ : ∃ W0, w.alloc (.cells #[.int .u64 a, .int .i64 b, .int .i64 c, .int .i64 d, .int .i64 e, .int .i64 f] 24) = W0 := ⟨_, rfl⟩
  have B0 := Aside0.mk (show Below w.heap.size w W0 by rw [← hW0]; exact below_alloc (Below.refl _ _) _)
  have K0 := Aside0.mk (show W0.heap[w.heap.size]? = some (.cells #[.int .u64 a, .int .i64 b, .int .i64 c, .int .i64 d, .int .i64 e, .int .i64 f] 24 (0, 0)) by rw [← hW0]; exact heap_alloc_new w _)
  have HW0 := Aside0.mk hW0
  clear hW0
  go_enter Tryd.func4, Tryd.ntmps4
  go_wp2_with fail
  rw [HW0.out]
  refine (up_true _ (HG.out _ B0.out)).mono ?_
  rintro e' w1 ⟨rfl, hb⟩
  have B1 := Aside0.mk (below_step B0.out hb)
  have K1 := Aside0.mk ((hb.block _ (blk_lt K0.out)).trans K0.out)
  clear hb
  have z0 : w1.cell? ⟨w.heap.size, 0, none⟩ = some (.int .u64 a) := (blk_cell K1.out 0).trans rfl
  have z1 : w1.cell? ⟨w.heap.size, 1, none⟩ = some (.int .i64 b) := (blk_cell K1.out 1).trans rfl
  have z2 : w1.cell? ⟨w.heap.size, 2, none⟩ = some (.int .i64 c) := (blk_cell K1.out 2).trans rfl
  have z3 : w1.cell? ⟨w.heap.size, 3, none⟩ = some (.int .i64 d) := (blk_cell K1.out 3).trans rfl
  have z4 : w1.cell? ⟨w.heap.size, 4, none⟩ = some (.int .i64 e) := (blk_cell K1.out 4).trans rfl
  have z5 : w1.cell? ⟨w.heap.size, 5, none⟩ = some (.int .i64 f) := (blk_cell K1.out 5).trans rfl
  go_wp2_with fail
  refine (HPut.out _).mono ?_
  rintro e' w2 ⟨rfl, hb⟩
  have B2 := Aside0.mk (below_step B1.out hb)
  clear hb z0 z1 z2 z3 z4 z5
  go_wp2_with fail
  refine (HNP.out _ (HG.out _ B2.out)).mono ?_
  rintro e' w3 ⟨rfl, hb⟩
  have B3 := Aside0.mk (below_step B2.out hb)
  clear hb
  go_wp2_with fail
  refine (HPP.out _ (HG.out _ B3.out)).mono ?_
  rintro e' w4 ⟨rfl, hb⟩
  have B4 := Aside0.mk (below_step B3.out hb)
  clear hb
  by_cases hp : 0 ≤ pg
  · by_cases hp2 : pg < 1000
    · have e : pg = n := by omega
      subst e
      by_cases huv : u = v
      · subst huv
        have E1 := E12.out
        have E3 := E13.out
        rw [decide_eq_true rfl] at E1
        go_wp2_with fail
        refine (N1.out _ (HG.out _ B4.out)).mono ?_
        rintro e' w5 ⟨rfl, hb⟩
        have B5 := Aside0.mk (below_step B4.out hb)
        clear hb
        go_wp2_with fail
        refine (N2.out _ (HG.out _ B5.out)).mono ?_
        rintro e' w6 ⟨rfl, hb⟩
        have B6 := Aside0.mk (below_step B5.out hb)
        clear hb
        go_wp2_with fail
        refine (N1.out _ (HG.out _ B6.out)).mono ?_
        rintro e' w7 ⟨rfl, hb⟩
        have B7 := Aside0.mk (below_step B6.out hb)
        clear hb
        go_wp2_with fail
        refine (N3.out _ (HG.out _ B7.out)).mono ?_
        rintro e' w8 ⟨rfl, hb⟩
        have B8 := Aside0.mk (below_step B7.out hb)
        clear hb
        go_wp2_with fail
        refine (name_q u 0 _).mono ?_
        rintro e' w9 ⟨rfl, rfl⟩
        go_wp2
        go_ret
        exact ⟨rfl, B8.out⟩
      · have huv1 : ((u : Int) == (v : Int)) = false := beq_eq_false_iff_ne.mpr (by omega)
        have E1 := E12.out
        have E3 := E13.out
        rw [decide_eq_false huv] at E1
        go_wp2_with fail
        refine (N1.out _ (HG.out _ B4.out)).mono ?_
        rintro e' w5 ⟨rfl, hb⟩
        have B5 := Aside0.mk (below_step B4.out hb)
        clear hb
        go_wp2_with fail
        refine (N2.out _ (HG.out _ B5.out)).mono ?_
        rintro e' w6 ⟨rfl, hb⟩
        have B6 := Aside0.mk (below_step B5.out hb)
        clear hb
        go_wp2_with fail
        refine (N1.out _ (HG.out _ B6.out)).mono ?_
        rintro e' w7 ⟨rfl, hb⟩
        have B7 := Aside0.mk (below_step B6.out hb)
        clear hb
        go_wp2_with fail
        refine (N3.out _ (HG.out _ B7.out)).mono ?_
        rintro e' w8 ⟨rfl, hb⟩
        have B8 := Aside0.mk (below_step B7.out hb)
        clear hb
        go_wp2_with fail
        refine (name_q u 0 _).mono ?_
        rintro e' w9 ⟨rfl, rfl⟩
        go_wp2
        go_ret
        exact ⟨rfl, B8.out⟩
    · have e2 : decide (pg < 1000) = false := decide_eq_false hp2
      by_cases huv : u = v
      · subst huv
        have E1 := E12.out
        have E3 := E13.out
        rw [decide_eq_true rfl] at E1
        go_wp2_with fail
        refine (N1.out _ (HG.out _ B4.out)).mono ?_
        rintro e' w5 ⟨rfl, hb⟩
        have B5 := Aside0.mk (below_step B4.out hb)
        clear hb
        go_wp2_with fail
        refine (N2.out _ (HG.out _ B5.out)).mono ?_
        rintro e' w6 ⟨rfl, hb⟩
        have B6 := Aside0.mk (below_step B5.out hb)
        clear hb
        go_wp2_with fail
        refine (N1.out _ (HG.out _ B6.out)).mono ?_
        rintro e' w7 ⟨rfl, hb⟩
        have B7 := Aside0.mk (below_step B6.out hb)
        clear hb
        go_wp2_with fail
        refine (N3.out _ (HG.out _ B7.out)).mono ?_
        rintro e' w8 ⟨rfl, hb⟩
        have B8 := Aside0.mk (below_step B7.out hb)
        clear hb
        go_wp2_with fail
        refine (name_q u 0 _).mono ?_
        rintro e' w9 ⟨rfl, rfl⟩
        go_wp2
        go_ret
        exact ⟨rfl, B8.out⟩
      · have huv1 : ((u : Int) == (v : Int)) = false := beq_eq_false_iff_ne.mpr (by omega)
        have E1 := E12.out
        have E3 := E13.out
        rw [decide_eq_false huv] at E1
        go_wp2_with fail
        refine (N1.out _ (HG.out _ B4.out)).mono ?_
        rintro e' w5 ⟨rfl, hb⟩
        have B5 := Aside0.mk (below_step B4.out hb)
        clear hb
        go_wp2_with fail
        refine (N2.out _ (HG.out _ B5.out)).mono ?_
        rintro e' w6 ⟨rfl, hb⟩
        have B6 := Aside0.mk (below_step B5.out hb)
        clear hb
        go_wp2_with fail
        refine (N1.out _ (HG.out _ B6.out)).mono ?_
        rintro e' w7 ⟨rfl, hb⟩
        have B7 := Aside0.mk (below_step B6.out hb)
        clear hb
        go_wp2_with fail
        refine (N3.out _ (HG.out _ B7.out)).mono ?_
        rintro e' w8 ⟨rfl, hb⟩
        have B8 := Aside0.mk (below_step B7.out hb)
        clear hb
        go_wp2_with fail
        refine (name_q u 0 _).mono ?_
        rintro e' w9 ⟨rfl, rfl⟩
        go_wp2
        go_ret
        exact ⟨rfl, B8.out⟩
  · have e1 : decide (0 ≤ pg) = false := decide_eq_false hp
    by_cases huv : u = v
    · subst huv
      have E1 := E12.out
      have E3 := E13.out
      rw [decide_eq_true rfl] at E1
      go_wp2_with fail
      refine (N1.out _ (HG.out _ B4.out)).mono ?_
      rintro e' w5 ⟨rfl, hb⟩
      have B5 := Aside0.mk (below_step B4.out hb)
      clear hb
      go_wp2_with fail
      refine (N2.out _ (HG.out _ B5.out)).mono ?_
      rintro e' w6 ⟨rfl, hb⟩
      have B6 := Aside0.mk (below_step B5.out hb)
      clear hb
      go_wp2_with fail
      refine (N1.out _ (HG.out _ B6.out)).mono ?_
      rintro e' w7 ⟨rfl, hb⟩
      have B7 := Aside0.mk (below_step B6.out hb)
      clear hb
      go_wp2_with fail
      refine (N3.out _ (HG.out _ B7.out)).mono ?_
      rintro e' w8 ⟨rfl, hb⟩
      have B8 := Aside0.mk (below_step B7.out hb)
      clear hb
      go_wp2_with fail
      refine (name_q u 0 _).mono ?_
      rintro e' w9 ⟨rfl, rfl⟩
      go_wp2
      go_ret
      exact ⟨rfl, B8.out⟩
    · have huv1 : ((u : Int) == (v : Int)) = false := beq_eq_false_iff_ne.mpr (by omega)
      have E1 := E12.out
      have E3 := E13.out
      rw [decide_eq_false huv] at E1
      go_wp2_with fail
      refine (N1.out _ (HG.out _ B4.out)).mono ?_
      rintro e' w5 ⟨rfl, hb⟩
      have B5 := Aside0.mk (below_step B4.out hb)
      clear hb
      go_wp2_with fail
      refine (N2.out _ (HG.out _ B5.out)).mono ?_
      rintro e' w6 ⟨rfl, hb⟩
      have B6 := Aside0.mk (below_step B5.out hb)
      clear hb
      go_wp2_with fail
      refine (N1.out _ (HG.out _ B6.out)).mono ?_
      rintro e' w7 ⟨rfl, hb⟩
      have B7 := Aside0.mk (below_step B6.out hb)
      clear hb
      go_wp2_with fail
      refine (N3.out _ (HG.out _ B7.out)).mono ?_
      rintro e' w8 ⟨rfl, hb⟩
      have B8 := Aside0.mk (below_step B7.out hb)
      clear hb
      go_wp2_with fail
      refine (name_q u 0 _).mono ?_
      rintro e' w9 ⟨rfl, rfl⟩
      go_wp2
      go_ret
      exact ⟨rfl, B8.out⟩

end Go.Proofs.YtbfmjbkhnbpbgaaDoor.H
