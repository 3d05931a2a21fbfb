/- The walk of MetaPuts. -/
import Derived.Test.YtbfmjbkhnbpbgaaDoorUp
import Derived.Deep.RegionWith
import Derived.Deep.RegionHeld3
set_option linter.unusedVariables false
set_option linter.unusedSimpArgs false
namespace Go.Proofs.YtbfmjbkhnbpbgaaDoor.H
open Go.RowKit Go.Proofs.YtbfmjbkhnbpbgaaDoorW.PrintWords Go.Proofs.YtbfmjbkhnbpbgaaDoorW.PrintLast Go.Proofs.YtbfmjbkhnbpbgaaDoorW.PrintMore
open Go.Proofs.YtbfmjbkhnbpbgaaDoor.PF Go.Proofs.YtbfmjbkhnbpbgaaDoor.Pl
theorem two_blocks (w : World) (cs ds : Array Value) (t u : TypeId) {W : World} (hb : Below ((w.alloc (.cells cs t)).alloc (.cells ds u)).heap.size ((w.alloc (.cells cs t)).alloc (.cells ds u)) W) :
    W.heap[w.heap.size]? = some (.cells cs t (0, 0)) ∧ W.heap[w.heap.size + 1]? = some (.cells ds u (0, 0)) := by
  constructor
  · rw [hb.block _ (by simp only [World.size_alloc]; omega), Below.heap_alloc _ _ _ (by simp only [World.size_alloc]; omega)]; exact heap_alloc_new w _
  · rw [hb.block _ (by simp)]
    have := heap_alloc_new (w.alloc (.cells cs t)) (.cells ds u)
    simpa using this
theorem cells9 {W : World} {n : Nat} {a0 a1 a2 a3 a4 a5 b0 b1 b2 : Value} {t u : TypeId} (h : W.heap[n]? = some (.cells #[a0, a1, a2, a3, a4, a5] t (0, 0)) ∧ W.heap[n + 1]? = some (.cells #[b0, b1, b2] u (0, 0))) :
    W.cell? ⟨n, 0, none⟩ = some a0 ∧ W.cell? ⟨n, 1, none⟩ = some a1 ∧ W.cell? ⟨n, 2, none⟩ = some a2 ∧ W.cell? ⟨n, 3, none⟩ = some a3 ∧ W.cell? ⟨n, 4, none⟩ = some a4 ∧ W.cell? ⟨n, 5, none⟩ = some a5 ∧ W.cell? ⟨n + 1, 0, none⟩ = some b0 ∧ W.cell? ⟨n + 1, 1, none⟩ = some b1 ∧ W.cell? ⟨n + 1, 2, none⟩ = some b2 :=
  ⟨blk_cell h.1 0, blk_cell h.1 1, blk_cell h.1 2, blk_cell h.1 3, blk_cell h.1 4, blk_cell h.1 5, blk_cell h.2 0, blk_cell h.2 1, blk_cell h.2 2⟩
theorem run_neq_iface_int {P : Program} (w : World) {ti tn : TypeId} {ms : Array (String × TypeId)} {i : TypeInfo} {k : IntKind} (a b : Int)
    (hi : P.underlying ti = some (.interface ms)) (hn : P.underlying tn = some (.int k)) (hinfo : P.info? tn = some i) (hcomp : i.comparable = true) :
    (binOp .neq ti (.iface tn (.int k a)) (.iface tn (.int k b))).run P w = .ok (.bool (a != b)) w := by
  simp only [binOp]
  simp [Op.equal, Op.maxDepth, run_equalIn_iface_int w 9998 a b hi hn hinfo hcomp]
  simp [bne]
theorem neq_code (w : World) (a b : Int) : (binOp .neq 30 (.iface 36 (.int .i64 a)) (.iface 36 (.int .i64 b))).run Tryd.prog w = .ok (.bool (a != b)) w := by
  obtain ⟨i, hi, hc⟩ := codeInfo
  exact run_neq_iface_int w a b Tryd.underlying30 Tryd.underlying36 hi hc
theorem u64_of {n : Int} (h0 : 0 ≤ n) (h : n < 18446744073709551616) : IntKind.u64.wrap n = ((n.toNat : Nat) : Int) := by rw [IntKind.wrap_u64]; omega
theorem plain_f {a b c d e f : Int} (h : MetaOk a b c d e f) (ha : a < 18446744073709551616) (k : Nat) (hk : 20 ≤ k) : tankardref11_Plain.f k a b c d e f = some (flatB (metaF a b c d e f)) := by
  have h1 := h.id; have h2 := h.lo; have h3 := h.hi; have h4 := h.st; have h5 := h.se; have h6 := h.en; have h7 := h.p1; have h8 := h.p2; have h9 := h.t1; have h10 := h.t2
  unfold tankardref11_Plain.f
  rw [u64_of h4 (by omega), u64_of (n := d) (by omega) (by omega), u64_of (n := e) (by omega) (by omega), u64_of (n := f) (by omega) (by omega)]
  rw [show a = ((a.toNat : Nat) : Int) by omega, show (8 : Int) = ((8 : Nat) : Int) from rfl, show (2 : Int) = ((2 : Nat) : Int) from rfl, show (4 : Int) = ((4 : Nat) : Int) from rfl]
  rw [bytes_f 8 a.toNat k (by omega) (by omega) (by omega), bytes_f 8 c.toNat k (by omega) (by omega) (by omega), bytes_f 8 d.toNat k (by omega) (by omega) (by omega), bytes_f 2 e.toNat k (by omega) (by omega) (by omega), bytes_f 4 f.toNat k (by omega) (by omega) (by omega)]
  simp only [Option.bind_some, List.length_append, beN_length, List.length_singleton]
  simp only [show (8 + 8 < 140737488355328) = True by simp, show (8 + 8 + 8 < 140737488355328) = True by simp, show (8 + 8 + 8 + 1 + 2 < 140737488355328) = True by simp, show (8 + 8 + 8 + 1 + 2 + 4 < 140737488355328) = True by simp, if_true]
  have eb : b % 256 = ((b.toNat % 256 : Nat) : Int) := by omega
  rw [eb]
  simp [flatB, metaF, beN]
theorem bare_f {a b c : Int} (h1 : 1 ≤ a) (ha : a < 18446744073709551616) (h2 : 0 ≤ b) (h3 : b ≤ 1099511627776) (hc0 : 0 ≤ c) (hc : c < 18446744073709551616) (k : Nat) (hk : 20 ≤ k) : tankardref11_Bare.f k a b c = some (flatB (markF a b c)) := by
  unfold tankardref11_Bare.f
  rw [u64_of h2 (by omega)]
  obtain ⟨a, rfl⟩ : ∃ n : Nat, a = n := ⟨a.toNat, by omega⟩
  obtain ⟨c, rfl⟩ : ∃ n : Nat, c = n := ⟨c.toNat, by omega⟩
  rw [show (8 : Int) = ((8 : Nat) : Int) from rfl]
  rw [bytes_f 8 a k (by omega) (by omega) (by omega), bytes_f 8 b.toNat k (by omega) (by omega) (by omega), bytes_f 8 c k (by omega) (by omega) (by omega)]
  simp only [Option.bind_some, List.length_append, beN_length]
  simp only [show (8 + 8 < 140737488355328) = True by simp, show (8 + 8 + 8 < 140737488355328) = True by simp, if_true]
  simp [flatB, markF]
theorem conv_made {w W : World} {base : Nat} {v : Value} {l : List Int} (h : Kd.R (Kd.int .u8) 5 W base (fun _ => True) v l) : (convert 28 9 v).run Tryd.prog W = .ok (.string (strOfNums l)) W := by
  obtain ⟨A, c, rfl, hl, hC⟩ := Kd.R_reads h
  exact Kd.C_string Tryd.underlying28 Tryd.underlying5 Tryd.underlying9 hC
set_option maxHeartbeats 1600000 in
set_option maxRecDepth 100000 in
theorem puts_yy (a b c d e f x y z : Int) (w : World) (hg : Gl w) (ha : a < 18446744073709551616) (hx : x < 18446744073709551616) (hz0 : 0 ≤ z) (hz : z < 18446744073709551616) (hm : mayB a b c d e f = true) (hf : fairB x y z = true) :
    Calls Tryd.prog 3 #[.agg #[.int .u64 a, .int .i64 b, .int .i64 c, .int .i64 d, .int .i64 e, .int .i64 f], .agg #[.int .u64 x, .int .i64 y, .int .u64 z]] w fun e' w' => e' = .returned (.bool true) ∧ Below w.heap.size w w' := by
  have hu24 := Tryd.underlying24
  have hu26 := Tryd.underlying26
  have hu30 := Tryd.underlying30
  have hE := fun W => eql_code W 1 1
  have hN := fun W => neq_code W 1 1
  have HPut := Aside0.mk (fun W => meta_Put_yes a b c d e f W hm ha)
  have HMark := Aside0.mk (fun W => meta_Mark_yes x y z W hf hx hz0 hz)
  have HMay := Aside0.mk ((meta_May_f a b c d e f).trans (congrArg some hm))
  have HRMay := Aside0.mk ((ref_May_f a b c d e f).trans (congrArg some hm))
  have HFair := Aside0.mk ((meta_Fair_f x y z).trans (congrArg some hf))
  have HRFair := Aside0.mk ((ref_Fair_f x y z).trans (congrArg some hf))
  have hO : MetaOk a b c d e f := of_decide_eq_true hm
  have HPlain := Aside0.mk (plain_f hO ha 1000 (by omega))
  have hfl := flatB_len (metaF a b c d e f) (metaF_ok hO ha)
  have HSlPlain := Aside0.mk (seal_f (flatB (metaF a b c d e f)) (flatB_bytes _) (by rw [show (metaF a b c d e f).length = 6 from rfl] at hfl; omega) 1000 (by rw [show (metaF a b c d e f).length = 6 from rfl] at hfl; omega))
  clear hO hfl
  obtain ⟨f1, f2, f3, f4⟩ : 1 ≤ x ∧ 0 ≤ y ∧ y ≤ 1099511627776 ∧ z ≠ x := of_decide_eq_true hf
  have HBare := Aside0.mk (bare_f f1 hx f2 f3 hz0 hz 1000 (by omega))
  have hfl := flatB_len (markF x y z) (markF_ok f3 hx hz)
  have HSlBare := Aside0.mk (seal_f (flatB (markF x y z)) (flatB_bytes _) (by rw [show (markF x y z).length = 3 from rfl] at hfl; omega) 1000 (by rw [show (markF x y z).length = 3 from rfl] at hfl; omega))
  clear f1 f2 f3 f4 hfl
  clear hm hf ha hx hz0 hz
  obtain ⟨W0, hW0⟩ : ∃ W0, (w.alloc (.cells #[.int .u64 a, .int .i64 b, .int .i64 c, .int .i64 d, .int .i64 e, .int .i64 f] 24)).alloc (.cells #[.int .u64 x, .int .i64 y, .int .u64 z] 26) = W0 := ⟨_, rfl⟩
  have HB := Aside0.mk (show Below w.heap.size w W0 by rw [← hW0]; exact below_alloc (below_alloc (Below.refl _ _) _) _)
  have HC : ∀ W, Below W0.heap.size W0 W → _ := fun W hb => cells9 (two_blocks w _ _ _ _ (by rw [hW0]; exact hb) : W.heap[w.heap.size]? = some (.cells #[.int .u64 a, .int .i64 b, .int .i64 c, .int .i64 d, .int .i64 e, .int .i64 f] 24 (0, 0)) ∧ W.heap[w.heap.size + 1]? = some (.cells #[.int .u64 x, .int .i64 y, .int .u64 z] 26 (0, 0)))
  have HCC := Aside0.mk HC
  clear HC
  have HW0 := Aside0.mk hW0
  clear hW0
  go_enter Tryd.func3, Tryd.ntmps3
  go_wp2_with fail
  rw [HW0.out]
  refine (up_true _ (hg.below HB.out)).mono ?_
  rintro e' w1 ⟨rfl, hb⟩
  have H1 := Aside0.mk hb
  obtain ⟨z0, z1, z2, z3, z4, z5, z6, z7, z8⟩ := HCC.out _ hb
  clear hb
  go_wp2_with fail
  refine (HPut.out _).mono ?_
  rintro e' w2 ⟨v, rfl, hv, hb⟩
  have HV := Aside0.mk (And.intro hv hb)
  clear hv
  have H2 := Aside0.mk (below_step H1.out hb)
  clear hb z0 z1 z2 z3 z4 z5 z6 z7 z8
  obtain ⟨z0, z1, z2, z3, z4, z5, z6, z7, z8⟩ := HCC.out _ H2.out
  go_wp2_with fail
  refine (HMark.out _).mono ?_
  rintro e' w3 ⟨v', rfl, hv', hb⟩
  have HV' := Aside0.mk hv'
  clear hv'
  have H3 := Aside0.mk (below_step H2.out hb)
  have N3 := Aside0.mk hb
  clear hb z0 z1 z2 z3 z4 z5 z6 z7 z8
  obtain ⟨z0, z1, z2, z3, z4, z5, z6, z7, z8⟩ := HCC.out _ H3.out
  go_wp2_with fail
  refine (tankardref11_May.calls a b c d e f true _ HRMay.out).mono ?_
  rintro e' w4 ⟨rfl, hb⟩
  have H4 := Aside0.mk (below_step H3.out hb)
  have N4 := Aside0.mk hb
  clear hb z0 z1 z2 z3 z4 z5 z6 z7 z8
  obtain ⟨z0, z1, z2, z3, z4, z5, z6, z7, z8⟩ := HCC.out _ H4.out
  go_wp2_with fail
  refine (tankardref11_Fair.calls x y z true _ HRFair.out).mono ?_
  rintro e' w5 ⟨rfl, hb⟩
  have H5 := Aside0.mk (below_step H4.out hb)
  have N5 := Aside0.mk hb
  clear hb z0 z1 z2 z3 z4 z5 z6 z7 z8
  obtain ⟨z0, z1, z2, z3, z4, z5, z6, z7, z8⟩ := HCC.out _ H5.out
  go_wp2_with fail
  refine (meta_May.calls a b c d e f true _ HMay.out).mono ?_
  rintro e' w6 ⟨rfl, hb⟩
  have H6 := Aside0.mk (below_step H5.out hb)
  have N6 := Aside0.mk hb
  clear hb z0 z1 z2 z3 z4 z5 z6 z7 z8
  obtain ⟨z0, z1, z2, z3, z4, z5, z6, z7, z8⟩ := HCC.out _ H6.out
  go_wp2_with fail
  refine (meta_Fair.calls x y z true _ HFair.out).mono ?_
  rintro e' w7 ⟨rfl, hb⟩
  have H7 := Aside0.mk (below_step H6.out hb)
  have N7 := Aside0.mk hb
  clear hb z0 z1 z2 z3 z4 z5 z6 z7 z8
  obtain ⟨z0, z1, z2, z3, z4, z5, z6, z7, z8⟩ := HCC.out _ H7.out
  have HVB := Aside0.mk (Kd.R_below (Kd.R_below (Kd.R_below (Kd.R_below (Kd.R_below HV.out.1 N3.out) N4.out) N5.out) N6.out) N7.out)
  have HVF := Aside0.mk (Kd.R_below (Kd.R_below (Kd.R_below (Kd.R_below HV'.out N4.out) N5.out) N6.out) N7.out)
  go_upto_region 11 with (fail)
  go_cut [57] (fun vv wc => vv = .bool false ∧ Aside0 (Below w7.heap.size w7 wc))
  case first =>
    have HS := Aside0.mk (show ∀ W, Below w7.heap.size w7 W → ((convert 28 9 v).run Tryd.prog W = .ok (.string (strOfNums (metaBytes a b c d e f))) W ∧ W.cell? ⟨w.heap.size, 0, none⟩ = some (.int .u64 a) ∧ W.cell? ⟨w.heap.size, 1, none⟩ = some (.int .i64 b) ∧ W.cell? ⟨w.heap.size, 2, none⟩ = some (.int .i64 c) ∧ W.cell? ⟨w.heap.size, 3, none⟩ = some (.int .i64 d) ∧ W.cell? ⟨w.heap.size, 4, none⟩ = some (.int .i64 e) ∧ W.cell? ⟨w.heap.size, 5, none⟩ = some (.int .i64 f)) from fun W hb => by
      obtain ⟨y0, y1, y2, y3, y4, y5, y6, y7, y8⟩ := HCC.out _ (below_step H7.out hb)
      exact ⟨conv_made (w := w1) (Kd.R_below HVB.out hb), y0, y1, y2, y3, y4, y5⟩)
    have q0 : Aside0 (Below w7.heap.size w7 w7.drew) := ⟨(Below.refl _ _).drew⟩
    clear z0 z1 z2 z3 z4 z5 z6 z7 z8
    have HXT := Aside0.mk (show sealed (flatB (metaF a b c d e f)) = metaBytes a b c d e f from rfl)
    refine start_ (n := 11) (S := fun W => (convert 28 9 v).run Tryd.prog W = .ok (.string (strOfNums (metaBytes a b c d e f))) W ∧ W.cell? ⟨w.heap.size, 0, none⟩ = some (.int .u64 a) ∧ W.cell? ⟨w.heap.size, 1, none⟩ = some (.int .i64 b) ∧ W.cell? ⟨w.heap.size, 2, none⟩ = some (.int .i64 c) ∧ W.cell? ⟨w.heap.size, 3, none⟩ = some (.int .i64 d) ∧ W.cell? ⟨w.heap.size, 4, none⟩ = some (.int .i64 e) ∧ W.cell? ⟨w.heap.size, 5, none⟩ = some (.int .i64 f)) (ds := []) #[false, false, false, false, false, false, false, false, false, false, false] (by kernel_rfl) rfl rfl (HS.out _ q0.out) (fun hHeld => ?_)
    refine pure_ (i := 0) (N := (some 47)) (v := ?_) (a' := ?_) #[true, false, false, false, false, false, false, false, false, false, false] rfl rfl (by kernel_rfl) (fun _ _ _ h => h) (Or.inl ⟨by rfl, ?_⟩) ?_ ?_
    rotate_left
    · intro w'
      go_simp
      with_reducible rfl
    rotate_left
    · simp only [Act.put, List.setIfInBounds_toArray, List.set_cons_zero, List.set_cons_succ, i64_w, i32_w]
      rfl
    refine pure_ (i := 1) (N := (some 48)) (v := ?_) (a' := ?_) #[true, true, false, false, false, false, false, false, false, false, false] rfl rfl (by kernel_rfl) (fun _ _ _ h => h) (Or.inl ⟨by rfl, ?_⟩) ?_ ?_
    rotate_left
    · intro w'
      go_simp
      with_reducible rfl
    rotate_left
    · simp only [Act.put, List.setIfInBounds_toArray, List.set_cons_zero, List.set_cons_succ, i64_w, i32_w]
      rfl
    refine pure_ (i := 2) (N := (some 49)) (v := ?_) (a' := ?_) #[true, true, true, false, false, false, false, false, false, false, false] rfl rfl (by kernel_rfl) (fun _ _ _ h => h) (Or.inl ⟨by rfl, ?_⟩) ?_ ?_
    rotate_left
    · intro w'
      go_simp
      with_reducible rfl
    rotate_left
    · simp only [Act.put, List.setIfInBounds_toArray, List.set_cons_zero, List.set_cons_succ, i64_w, i32_w]
      rfl
    refine pure_ (i := 3) (N := (some 50)) (v := ?_) (a' := ?_) #[true, true, true, true, false, false, false, false, false, false, false] rfl rfl (by kernel_rfl) (fun _ _ _ h => h) (Or.inl ⟨by rfl, ?_⟩) ?_ ?_
    rotate_left
    · intro w'
      go_simp
      with_reducible rfl
    rotate_left
    · simp only [Act.put, List.setIfInBounds_toArray, List.set_cons_zero, List.set_cons_succ, i64_w, i32_w]
      rfl
    refine take_ (i := 4) (N := (some 51)) (v := ?_) (a' := ?_) #[true, true, true, true, true, false, false, false, false, false, false] rfl rfl (by kernel_rfl) (fun _ _ _ h => h) (Or.inl ⟨by rfl, ?_⟩) hHeld ?_ ?_
    rotate_left
    · rintro w' ⟨s0, s1, s2, s3, s4, s5, s6⟩
      go_simp
      with_reducible rfl
    rotate_left
    · simp only [Act.put, List.setIfInBounds_toArray, List.set_cons_zero, List.set_cons_succ, i64_w, i32_w]
      rfl
    refine take_ (i := 5) (N := (some 52)) (v := ?_) (a' := ?_) #[true, true, true, true, true, true, false, false, false, false, false] rfl rfl (by kernel_rfl) (fun _ _ _ h => h) (Or.inl ⟨by rfl, ?_⟩) hHeld ?_ ?_
    rotate_left
    · rintro w' ⟨s0, s1, s2, s3, s4, s5, s6⟩
      go_simp
      with_reducible rfl
    rotate_left
    · simp only [Act.put, List.setIfInBounds_toArray, List.set_cons_zero, List.set_cons_succ, i64_w, i32_w]
      rfl
    refine one_ (i := 6) (N := (some 53)) #[true, true, true, true, true, true, true, false, false, false, false] rfl rfl (by kernel_rfl) (by decide) (fun K hK => ?_)
    refine goes_ Tryd.func13 (by kernel_rfl) rfl #[.agg #[.int .u64 a, .int .i64 b, .int .i64 c, .int .i64 d, .int .i64 e, .int .i64 f]] (by rfl) rfl rfl (by (try simp only [List.map_toArray, List.map_cons, List.map_nil]); first | done | rfl) ?_
    with_reducible refine (tankardref11_Plain.calls 1000 a b c d e f _ _ HPlain.out).mono ?_
    rintro e' w8 ⟨v8, rfl, hm8, hb8⟩
    have q8 : Aside0 (Below w7.heap.size w7 w8) := ⟨below_step q0.out hb8⟩
    obtain ⟨A8, c8, rfl, hl8, hC8⟩ := Kd.R_reads hm8
    have S8 := Aside0.mk (And.intro hl8 hC8)
    clear hm8 hb8 hl8 hC8
    refine ⟨_, rfl, ?_⟩
    refine hK.out _ _ (HS.out _ q8.out) (fun hHeld => ?_)
    clear hK K
    refine norm_ (a' := ?_) ?_ ?_
    rotate_left
    · show Act.put _ (some 53) _ = _
      simp only [Act.put, List.setIfInBounds_toArray, List.set_cons_zero, List.set_cons_succ, i64_w, i32_w]
      rfl
    refine one_ (i := 7) (N := (some 54)) #[true, true, true, true, true, true, true, true, false, false, false] rfl rfl (by kernel_rfl) (by decide) (fun K hK => ?_)
    refine goes_ Tryd.func12 (by kernel_rfl) rfl #[.slice A8 (flatB (metaF a b c d e f)).length c8] (by rfl) rfl rfl (by (try simp only [List.map_toArray, List.map_cons, List.map_nil]); first | done | rfl) ?_
    with_reducible refine (tankardref01_Seal.calls 1000 A8 c8 _ _ _ S8.out.2 S8.out.1 HSlPlain.out).mono ?_
    rintro e' w9 ⟨v9, rfl, hm9, hb9⟩
    have q9 : Aside0 (Below w7.heap.size w7 w9) := ⟨below_step q8.out hb9⟩
    have j9 := Aside0.mk (conv_made (w := w1) hm9)
    rw [HXT.out] at j9
    clear hm9 hb9
    refine ⟨_, rfl, ?_⟩
    refine hK.out _ _ (HS.out _ q9.out) (fun hHeld => ?_)
    clear hK K
    refine norm_ (a' := ?_) ?_ ?_
    rotate_left
    · show Act.put _ (some 54) _ = _
      simp only [Act.put, List.setIfInBounds_toArray, List.set_cons_zero, List.set_cons_succ, i64_w, i32_w]
      rfl
    refine one_ (i := 8) (N := (some 55)) #[true, true, true, true, true, true, true, true, true, false, false] rfl rfl (by kernel_rfl) (by decide) (fun K hK => ?_)
    refine value_ (v := .string (strOfNums (metaBytes a b c d e f))) (w1 := w9) (by rfl) rfl (by have := j9.out; go_simp) ?_
    refine hK.out _ _ (HS.out _ q9.out) (fun hHeld => ?_)
    clear hK K
    refine norm_ (a' := ?_) ?_ ?_
    rotate_left
    · show Act.put _ (some 55) _ = _
      simp only [Act.put, List.setIfInBounds_toArray, List.set_cons_zero, List.set_cons_succ, i64_w, i32_w]
      rfl
    refine pure_ (i := 9) (N := (some 56)) (v := ?_) (a' := ?_) #[true, true, true, true, true, true, true, true, true, true, false] rfl rfl (by kernel_rfl) (fun _ _ _ h => h) (Or.inl ⟨by rfl, ?_⟩) ?_ ?_
    rotate_left
    · intro w'
      go_simp
      with_reducible rfl
    rotate_left
    · simp only [Act.put, List.setIfInBounds_toArray, List.set_cons_zero, List.set_cons_succ, i64_w, i32_w]
      rfl
    refine pure_ (i := 10) (N := (some 57)) (v := ?_) (a' := ?_) #[true, true, true, true, true, true, true, true, true, true, true] rfl rfl (by kernel_rfl) (fun _ _ _ h => h) (Or.inl ⟨by rfl, ?_⟩) ?_ ?_
    rotate_left
    · intro w'
      go_simp
      with_reducible rfl
    rotate_left
    · simp only [Act.put, List.setIfInBounds_toArray, List.set_cons_zero, List.set_cons_succ, i64_w, i32_w]
      rfl
    refine done_ (by kernel_rfl) ?_
    go_wp2
    go_meet
    case rel => exact ⟨by first | rfl | simp, q9⟩
  case rest =>
    obtain ⟨rfl, HQ⟩ := hcut
    have H8 := Aside0.mk (below_step H7.out HQ.out)
    clear z0 z1 z2 z3 z4 z5 z6 z7 z8
    obtain ⟨z0, z1, z2, z3, z4, z5, z6, z7, z8⟩ := HCC.out _ H8.out
    have HVG := Aside0.mk (Kd.R_below HVF.out HQ.out)
    go_upto_region 15 with (fail)
    go_cut [4] (fun vv wd => vv = .bool true ∧ Aside0 (Below wc.heap.size wc wd))
    case first =>
      have HS := Aside0.mk (show ∀ W, Below wc.heap.size wc W → ((convert 28 9 v').run Tryd.prog W = .ok (.string (strOfNums (markBytes x y z))) W ∧ W.cell? ⟨w.heap.size + 1, 0, none⟩ = some (.int .u64 x) ∧ W.cell? ⟨w.heap.size + 1, 1, none⟩ = some (.int .i64 y) ∧ W.cell? ⟨w.heap.size + 1, 2, none⟩ = some (.int .u64 z)) from fun W hb => by
        obtain ⟨y0, y1, y2, y3, y4, y5, y6, y7, y8⟩ := HCC.out _ (below_step H8.out hb)
        exact ⟨conv_made (w := w1) (Kd.R_below HVG.out hb), y6, y7, y8⟩)
      have q0 : Aside0 (Below wc.heap.size wc wc.drew) := ⟨(Below.refl _ _).drew⟩
      clear z0 z1 z2 z3 z4 z5 z6 z7 z8
      have HXT := Aside0.mk (show sealed (flatB (markF x y z)) = markBytes x y z from rfl)
      refine start_ (n := 15) (S := fun W => (convert 28 9 v').run Tryd.prog W = .ok (.string (strOfNums (markBytes x y z))) W ∧ W.cell? ⟨w.heap.size + 1, 0, none⟩ = some (.int .u64 x) ∧ W.cell? ⟨w.heap.size + 1, 1, none⟩ = some (.int .i64 y) ∧ W.cell? ⟨w.heap.size + 1, 2, none⟩ = some (.int .u64 z)) (ds := []) #[false, false, false, false, false, false, false, false, false, false, false, false, false, false, false] (by kernel_rfl) rfl rfl (HS.out _ q0.out) (fun hHeld => ?_)
      refine pure_ (i := 0) (N := (some 71)) (v := ?_) (a' := ?_) #[true, false, false, false, false, false, false, false, false, false, false, false, false, false, false] rfl rfl (by kernel_rfl) (fun _ _ _ h => h) (Or.inl ⟨by rfl, ?_⟩) ?_ ?_
      rotate_left
      · intro w'
        go_simp
        with_reducible rfl
      rotate_left
      · simp only [Act.put, List.setIfInBounds_toArray, List.set_cons_zero, List.set_cons_succ, i64_w, i32_w]
        rfl
      refine pure_ (i := 1) (N := (some 72)) (v := ?_) (a' := ?_) #[true, true, false, false, false, false, false, false, false, false, false, false, false, false, false] rfl rfl (by kernel_rfl) (fun _ _ _ h => h) (Or.inl ⟨by rfl, ?_⟩) ?_ ?_
      rotate_left
      · intro w'
        go_simp
        with_reducible rfl
      rotate_left
      · simp only [Act.put, List.setIfInBounds_toArray, List.set_cons_zero, List.set_cons_succ, i64_w, i32_w]
        rfl
      refine pure_ (i := 2) (N := (some 73)) (v := ?_) (a' := ?_) #[true, true, true, false, false, false, false, false, false, false, false, false, false, false, false] rfl rfl (by kernel_rfl) (fun _ _ _ h => h) (Or.inl ⟨by rfl, ?_⟩) ?_ ?_
      rotate_left
      · intro w'
        go_simp
        with_reducible rfl
      rotate_left
      · simp only [Act.put, List.setIfInBounds_toArray, List.set_cons_zero, List.set_cons_succ, i64_w, i32_w]
        rfl
      refine pure_ (i := 3) (N := (some 74)) (v := ?_) (a' := ?_) #[true, true, true, true, false, false, false, false, false, false, false, false, false, false, false] rfl rfl (by kernel_rfl) (fun _ _ _ h => h) (Or.inl ⟨by rfl, ?_⟩) ?_ ?_
      rotate_left
      · intro w'
        go_simp
        with_reducible rfl
      rotate_left
      · simp only [Act.put, List.setIfInBounds_toArray, List.set_cons_zero, List.set_cons_succ, i64_w, i32_w]
        rfl
      refine pure_ (i := 4) (N := (some 75)) (v := ?_) (a' := ?_) #[true, true, true, true, true, false, false, false, false, false, false, false, false, false, false] rfl rfl (by kernel_rfl) (fun _ _ _ h => h) (Or.inl ⟨by rfl, ?_⟩) ?_ ?_
      rotate_left
      · intro w'
        go_simp
        with_reducible rfl
      rotate_left
      · simp only [Act.put, List.setIfInBounds_toArray, List.set_cons_zero, List.set_cons_succ, i64_w, i32_w]
        rfl
      refine pure_ (i := 5) (N := (some 76)) (v := ?_) (a' := ?_) #[true, true, true, true, true, true, false, false, false, false, false, false, false, false, false] rfl rfl (by kernel_rfl) (fun _ _ _ h => h) (Or.inl ⟨by rfl, ?_⟩) ?_ ?_
      rotate_left
      · intro w'
        go_simp
        with_reducible rfl
      rotate_left
      · simp only [Act.put, List.setIfInBounds_toArray, List.set_cons_zero, List.set_cons_succ, i64_w, i32_w]
        rfl
      refine pure_ (i := 6) (N := (some 77)) (v := ?_) (a' := ?_) #[true, true, true, true, true, true, true, false, false, false, false, false, false, false, false] rfl rfl (by kernel_rfl) (fun _ _ _ h => h) (Or.inl ⟨by rfl, ?_⟩) ?_ ?_
      rotate_left
      · intro w'
        go_simp
        with_reducible rfl
      rotate_left
      · simp only [Act.put, List.setIfInBounds_toArray, List.set_cons_zero, List.set_cons_succ, i64_w, i32_w]
        rfl
      refine take_ (i := 7) (N := (some 78)) (v := ?_) (a' := ?_) #[true, true, true, true, true, true, true, true, false, false, false, false, false, false, false] rfl rfl (by kernel_rfl) (fun _ _ _ h => h) (Or.inl ⟨by rfl, ?_⟩) hHeld ?_ ?_
      rotate_left
      · rintro w' ⟨s0, s1, s2, s3⟩
        go_simp
        with_reducible rfl
      rotate_left
      · simp only [Act.put, List.setIfInBounds_toArray, List.set_cons_zero, List.set_cons_succ, i64_w, i32_w]
        rfl
      refine take_ (i := 8) (N := (some 79)) (v := ?_) (a' := ?_) #[true, true, true, true, true, true, true, true, true, false, false, false, false, false, false] rfl rfl (by kernel_rfl) (fun _ _ _ h => h) (Or.inl ⟨by rfl, ?_⟩) hHeld ?_ ?_
      rotate_left
      · rintro w' ⟨s0, s1, s2, s3⟩
        go_simp
        with_reducible rfl
      rotate_left
      · simp only [Act.put, List.setIfInBounds_toArray, List.set_cons_zero, List.set_cons_succ, i64_w, i32_w]
        rfl
      refine one_ (i := 9) (N := (some 80)) #[true, true, true, true, true, true, true, true, true, true, false, false, false, false, false] rfl rfl (by kernel_rfl) (by decide) (fun K hK => ?_)
      refine goes_ Tryd.func14 (by kernel_rfl) rfl #[.agg #[.int .u64 x, .int .i64 y, .int .u64 z]] (by rfl) rfl rfl (by (try simp only [List.map_toArray, List.map_cons, List.map_nil]); first | done | rfl) ?_
      with_reducible refine (tankardref11_Bare.calls 1000 x y z _ _ HBare.out).mono ?_
      rintro e' w8 ⟨v8, rfl, hm8, hb8⟩
      have q8 : Aside0 (Below wc.heap.size wc w8) := ⟨below_step q0.out hb8⟩
      obtain ⟨A8, c8, rfl, hl8, hC8⟩ := Kd.R_reads hm8
      have S8 := Aside0.mk (And.intro hl8 hC8)
      clear hm8 hb8 hl8 hC8
      refine ⟨_, rfl, ?_⟩
      refine hK.out _ _ (HS.out _ q8.out) (fun hHeld => ?_)
      clear hK K
      refine norm_ (a' := ?_) ?_ ?_
      rotate_left
      · show Act.put _ (some 80) _ = _
        simp only [Act.put, List.setIfInBounds_toArray, List.set_cons_zero, List.set_cons_succ, i64_w, i32_w]
        rfl
      refine one_ (i := 10) (N := (some 81)) #[true, true, true, true, true, true, true, true, true, true, true, false, false, false, false] rfl rfl (by kernel_rfl) (by decide) (fun K hK => ?_)
      refine goes_ Tryd.func12 (by kernel_rfl) rfl #[.slice A8 (flatB (markF x y z)).length c8] (by rfl) rfl rfl (by (try simp only [List.map_toArray, List.map_cons, List.map_nil]); first | done | rfl) ?_
      with_reducible refine (tankardref01_Seal.calls 1000 A8 c8 _ _ _ S8.out.2 S8.out.1 HSlBare.out).mono ?_
      rintro e' w9 ⟨v9, rfl, hm9, hb9⟩
      have q9 : Aside0 (Below wc.heap.size wc w9) := ⟨below_step q8.out hb9⟩
      have j9 := Aside0.mk (conv_made (w := w1) hm9)
      rw [HXT.out] at j9
      clear hm9 hb9
      refine ⟨_, rfl, ?_⟩
      refine hK.out _ _ (HS.out _ q9.out) (fun hHeld => ?_)
      clear hK K
      refine norm_ (a' := ?_) ?_ ?_
      rotate_left
      · show Act.put _ (some 81) _ = _
        simp only [Act.put, List.setIfInBounds_toArray, List.set_cons_zero, List.set_cons_succ, i64_w, i32_w]
        rfl
      refine one_ (i := 11) (N := (some 82)) #[true, true, true, true, true, true, true, true, true, true, true, true, false, false, false] rfl rfl (by kernel_rfl) (by decide) (fun K hK => ?_)
      refine value_ (v := .string (strOfNums (markBytes x y z))) (w1 := w9) (by rfl) rfl (by have := j9.out; go_simp) ?_
      refine hK.out _ _ (HS.out _ q9.out) (fun hHeld => ?_)
      clear hK K
      refine norm_ (a' := ?_) ?_ ?_
      rotate_left
      · show Act.put _ (some 82) _ = _
        simp only [Act.put, List.setIfInBounds_toArray, List.set_cons_zero, List.set_cons_succ, i64_w, i32_w]
        rfl
      refine pure_ (i := 12) (N := (some 83)) (v := ?_) (a' := ?_) #[true, true, true, true, true, true, true, true, true, true, true, true, true, false, false] rfl rfl (by kernel_rfl) (fun _ _ _ h => h) (Or.inl ⟨by rfl, ?_⟩) ?_ ?_
      rotate_left
      · intro w'
        go_simp
        with_reducible rfl
      rotate_left
      · simp only [Act.put, List.setIfInBounds_toArray, List.set_cons_zero, List.set_cons_succ, i64_w, i32_w]
        rfl
      refine pure_ (i := 13) (N := (some 84)) (v := ?_) (a' := ?_) #[true, true, true, true, true, true, true, true, true, true, true, true, true, true, false] rfl rfl (by kernel_rfl) (fun _ _ _ h => h) (Or.inl ⟨by rfl, ?_⟩) ?_ ?_
      rotate_left
      · intro w'
        go_simp
        with_reducible rfl
      rotate_left
      · simp only [Act.put, List.setIfInBounds_toArray, List.set_cons_zero, List.set_cons_succ, i64_w, i32_w]
        rfl
      refine pure_ (i := 14) (N := (some 4)) (v := ?_) (a' := ?_) #[true, true, true, true, true, true, true, true, true, true, true, true, true, true, true] rfl rfl (by kernel_rfl) (fun _ _ _ h => h) (Or.inl ⟨by rfl, ?_⟩) ?_ ?_
      rotate_left
      · intro w'
        go_simp
        with_reducible rfl
      rotate_left
      · simp only [Act.put, List.setIfInBounds_toArray, List.set_cons_zero, List.set_cons_succ, i64_w, i32_w]
        rfl
      refine done_ (by kernel_rfl) ?_
      go_wp2
      go_meet
      case rel => exact ⟨by first | rfl | simp, q9⟩
    case rest =>
      obtain ⟨rfl, HQ2⟩ := hcut
      go_wp2
      go_ret
      exact ⟨rfl, below_step HB.out (below_step H8.out HQ2.out)⟩
set_option maxHeartbeats 1600000 in
set_option maxRecDepth 100000 in
theorem puts_yn (a b c d e f x y z : Int) (w : World) (hg : Gl w) (ha : a < 18446744073709551616) (hx : x < 18446744073709551616) (hz0 : 0 ≤ z) (hz : z < 18446744073709551616) (hm : mayB a b c d e f = true) (hf : fairB x y z = false) :
    Calls Tryd.prog 3 #[.agg #[.int .u64 a, .int .i64 b, .int .i64 c, .int .i64 d, .int .i64 e, .int .i64 f], .agg #[.int .u64 x, .int .i64 y, .int .u64 z]] w fun e' w' => e' = .returned (.bool true) ∧ Below w.heap.size w w' := by
  have hu24 := Tryd.underlying24
  have hu26 := Tryd.underlying26
  have hu30 := Tryd.underlying30
  have hE := fun W => eql_code W 1 1
  have hN := fun W => neq_code W 1 1
  have HPut := Aside0.mk (fun W => meta_Put_yes a b c d e f W hm ha)
  have HMark := Aside0.mk (fun W => meta_Mark_no x y z W hf)
  have HMay := Aside0.mk ((meta_May_f a b c d e f).trans (congrArg some hm))
  have HRMay := Aside0.mk ((ref_May_f a b c d e f).trans (congrArg some hm))
  have HFair := Aside0.mk ((meta_Fair_f x y z).trans (congrArg some hf))
  have HRFair := Aside0.mk ((ref_Fair_f x y z).trans (congrArg some hf))
  have hO : MetaOk a b c d e f := of_decide_eq_true hm
  have HPlain := Aside0.mk (plain_f hO ha 1000 (by omega))
  have hfl := flatB_len (metaF a b c d e f) (metaF_ok hO ha)
  have HSlPlain := Aside0.mk (seal_f (flatB (metaF a b c d e f)) (flatB_bytes _) (by rw [show (metaF a b c d e f).length = 6 from rfl] at hfl; omega) 1000 (by rw [show (metaF a b c d e f).length = 6 from rfl] at hfl; omega))
  clear hO hfl
  clear hm hf ha hx hz0 hz
  obtain ⟨W0, hW0⟩ : ∃ W0, (w.alloc (.cells #[.int .u64 a, .int .i64 b, .int .i64 c, .int .i64 d, .int .i64 e, .int .i64 f] 24)).alloc (.cells #[.int .u64 x, .int .i64 y, .int .u64 z] 26) = W0 := ⟨_, rfl⟩
  have HB := Aside0.mk (show Below w.heap.size w W0 by rw [← hW0]; exact below_alloc (below_alloc (Below.refl _ _) _) _)
  have HC : ∀ W, Below W0.heap.size W0 W → _ := fun W hb => cells9 (two_blocks w _ _ _ _ (by rw [hW0]; exact hb) : W.heap[w.heap.size]? = some (.cells #[.int .u64 a, .int .i64 b, .int .i64 c, .int .i64 d, .int .i64 e, .int .i64 f] 24 (0, 0)) ∧ W.heap[w.heap.size + 1]? = some (.cells #[.int .u64 x, .int .i64 y, .int .u64 z] 26 (0, 0)))
  have HCC := Aside0.mk HC
  clear HC
  have HW0 := Aside0.mk hW0
  clear hW0
  go_enter Tryd.func3, Tryd.ntmps3
  go_wp2_with fail
  rw [HW0.out]
  refine (up_true _ (hg.below HB.out)).mono ?_
  rintro e' w1 ⟨rfl, hb⟩
  have H1 := Aside0.mk hb
  obtain ⟨z0, z1, z2, z3, z4, z5, z6, z7, z8⟩ := HCC.out _ hb
  clear hb
  go_wp2_with fail
  refine (HPut.out _).mono ?_
  rintro e' w2 ⟨v, rfl, hv, hb⟩
  have HV := Aside0.mk (And.intro hv hb)
  clear hv
  have H2 := Aside0.mk (below_step H1.out hb)
  clear hb z0 z1 z2 z3 z4 z5 z6 z7 z8
  obtain ⟨z0, z1, z2, z3, z4, z5, z6, z7, z8⟩ := HCC.out _ H2.out
  go_wp2_with fail
  refine (HMark.out _).mono ?_
  rintro e' w3 ⟨rfl, hb⟩
  have H3 := Aside0.mk (below_step H2.out hb)
  have N3 := Aside0.mk hb
  clear hb z0 z1 z2 z3 z4 z5 z6 z7 z8
  obtain ⟨z0, z1, z2, z3, z4, z5, z6, z7, z8⟩ := HCC.out _ H3.out
  go_wp2_with fail
  refine (tankardref11_May.calls a b c d e f true _ HRMay.out).mono ?_
  rintro e' w4 ⟨rfl, hb⟩
  have H4 := Aside0.mk (below_step H3.out hb)
  have N4 := Aside0.mk hb
  clear hb z0 z1 z2 z3 z4 z5 z6 z7 z8
  obtain ⟨z0, z1, z2, z3, z4, z5, z6, z7, z8⟩ := HCC.out _ H4.out
  go_wp2_with fail
  refine (tankardref11_Fair.calls x y z false _ HRFair.out).mono ?_
  rintro e' w5 ⟨rfl, hb⟩
  have H5 := Aside0.mk (below_step H4.out hb)
  have N5 := Aside0.mk hb
  clear hb z0 z1 z2 z3 z4 z5 z6 z7 z8
  obtain ⟨z0, z1, z2, z3, z4, z5, z6, z7, z8⟩ := HCC.out _ H5.out
  go_wp2_with fail
  refine (meta_May.calls a b c d e f true _ HMay.out).mono ?_
  rintro e' w6 ⟨rfl, hb⟩
  have H6 := Aside0.mk (below_step H5.out hb)
  have N6 := Aside0.mk hb
  clear hb z0 z1 z2 z3 z4 z5 z6 z7 z8
  obtain ⟨z0, z1, z2, z3, z4, z5, z6, z7, z8⟩ := HCC.out _ H6.out
  go_wp2_with fail
  refine (meta_Fair.calls x y z false _ HFair.out).mono ?_
  rintro e' w7 ⟨rfl, hb⟩
  have H7 := Aside0.mk (below_step H6.out hb)
  have N7 := Aside0.mk hb
  clear hb z0 z1 z2 z3 z4 z5 z6 z7 z8
  obtain ⟨z0, z1, z2, z3, z4, z5, z6, z7, z8⟩ := HCC.out _ H7.out
  have HVB := Aside0.mk (Kd.R_below (Kd.R_below (Kd.R_below (Kd.R_below (Kd.R_below HV.out.1 N3.out) N4.out) N5.out) N6.out) N7.out)
  go_upto_region 11 with (fail)
  go_cut [57] (fun vv wc => vv = .bool false ∧ Aside0 (Below w7.heap.size w7 wc))
  case first =>
    have HS := Aside0.mk (show ∀ W, Below w7.heap.size w7 W → ((convert 28 9 v).run Tryd.prog W = .ok (.string (strOfNums (metaBytes a b c d e f))) W ∧ W.cell? ⟨w.heap.size, 0, none⟩ = some (.int .u64 a) ∧ W.cell? ⟨w.heap.size, 1, none⟩ = some (.int .i64 b) ∧ W.cell? ⟨w.heap.size, 2, none⟩ = some (.int .i64 c) ∧ W.cell? ⟨w.heap.size, 3, none⟩ = some (.int .i64 d) ∧ W.cell? ⟨w.heap.size, 4, none⟩ = some (.int .i64 e) ∧ W.cell? ⟨w.heap.size, 5, none⟩ = some (.int .i64 f)) from fun W hb => by
      obtain ⟨y0, y1, y2, y3, y4, y5, y6, y7, y8⟩ := HCC.out _ (below_step H7.out hb)
      exact ⟨conv_made (w := w1) (Kd.R_below HVB.out hb), y0, y1, y2, y3, y4, y5⟩)
    have q0 : Aside0 (Below w7.heap.size w7 w7.drew) := ⟨(Below.refl _ _).drew⟩
    clear z0 z1 z2 z3 z4 z5 z6 z7 z8
    have HXT := Aside0.mk (show sealed (flatB (metaF a b c d e f)) = metaBytes a b c d e f from rfl)
    refine start_ (n := 11) (S := fun W => (convert 28 9 v).run Tryd.prog W = .ok (.string (strOfNums (metaBytes a b c d e f))) W ∧ W.cell? ⟨w.heap.size, 0, none⟩ = some (.int .u64 a) ∧ W.cell? ⟨w.heap.size, 1, none⟩ = some (.int .i64 b) ∧ W.cell? ⟨w.heap.size, 2, none⟩ = some (.int .i64 c) ∧ W.cell? ⟨w.heap.size, 3, none⟩ = some (.int .i64 d) ∧ W.cell? ⟨w.heap.size, 4, none⟩ = some (.int .i64 e) ∧ W.cell? ⟨w.heap.size, 5, none⟩ = some (.int .i64 f)) (ds := []) #[false, false, false, false, false, false, false, false, false, false, false] (by kernel_rfl) rfl rfl (HS.out _ q0.out) (fun hHeld => ?_)
    refine pure_ (i := 0) (N := (some 47)) (v := ?_) (a' := ?_) #[true, false, false, false, false, false, false, false, false, false, false] rfl rfl (by kernel_rfl) (fun _ _ _ h => h) (Or.inl ⟨by rfl, ?_⟩) ?_ ?_
    rotate_left
    · intro w'
      go_simp
      with_reducible rfl
    rotate_left
    · simp only [Act.put, List.setIfInBounds_toArray, List.set_cons_zero, List.set_cons_succ, i64_w, i32_w]
      rfl
    refine pure_ (i := 1) (N := (some 48)) (v := ?_) (a' := ?_) #[true, true, false, false, false, false, false, false, false, false, false] rfl rfl (by kernel_rfl) (fun _ _ _ h => h) (Or.inl ⟨by rfl, ?_⟩) ?_ ?_
    rotate_left
    · intro w'
      go_simp
      with_reducible rfl
    rotate_left
    · simp only [Act.put, List.setIfInBounds_toArray, List.set_cons_zero, List.set_cons_succ, i64_w, i32_w]
      rfl
    refine pure_ (i := 2) (N := (some 49)) (v := ?_) (a' := ?_) #[true, true, true, false, false, false, false, false, false, false, false] rfl rfl (by kernel_rfl) (fun _ _ _ h => h) (Or.inl ⟨by rfl, ?_⟩) ?_ ?_
    rotate_left
    · intro w'
      go_simp
      with_reducible rfl
    rotate_left
    · simp only [Act.put, List.setIfInBounds_toArray, List.set_cons_zero, List.set_cons_succ, i64_w, i32_w]
      rfl
    refine pure_ (i := 3) (N := (some 50)) (v := ?_) (a' := ?_) #[true, true, true, true, false, false, false, false, false, false, false] rfl rfl (by kernel_rfl) (fun _ _ _ h => h) (Or.inl ⟨by rfl, ?_⟩) ?_ ?_
    rotate_left
    · intro w'
      go_simp
      with_reducible rfl
    rotate_left
    · simp only [Act.put, List.setIfInBounds_toArray, List.set_cons_zero, List.set_cons_succ, i64_w, i32_w]
      rfl
    refine take_ (i := 4) (N := (some 51)) (v := ?_) (a' := ?_) #[true, true, true, true, true, false, false, false, false, false, false] rfl rfl (by kernel_rfl) (fun _ _ _ h => h) (Or.inl ⟨by rfl, ?_⟩) hHeld ?_ ?_
    rotate_left
    · rintro w' ⟨s0, s1, s2, s3, s4, s5, s6⟩
      go_simp
      with_reducible rfl
    rotate_left
    · simp only [Act.put, List.setIfInBounds_toArray, List.set_cons_zero, List.set_cons_succ, i64_w, i32_w]
      rfl
    refine take_ (i := 5) (N := (some 52)) (v := ?_) (a' := ?_) #[true, true, true, true, true, true, false, false, false, false, false] rfl rfl (by kernel_rfl) (fun _ _ _ h => h) (Or.inl ⟨by rfl, ?_⟩) hHeld ?_ ?_
    rotate_left
    · rintro w' ⟨s0, s1, s2, s3, s4, s5, s6⟩
      go_simp
      with_reducible rfl
    rotate_left
    · simp only [Act.put, List.setIfInBounds_toArray, List.set_cons_zero, List.set_cons_succ, i64_w, i32_w]
      rfl
    refine one_ (i := 6) (N := (some 53)) #[true, true, true, true, true, true, true, false, false, false, false] rfl rfl (by kernel_rfl) (by decide) (fun K hK => ?_)
    refine goes_ Tryd.func13 (by kernel_rfl) rfl #[.agg #[.int .u64 a, .int .i64 b, .int .i64 c, .int .i64 d, .int .i64 e, .int .i64 f]] (by rfl) rfl rfl (by (try simp only [List.map_toArray, List.map_cons, List.map_nil]); first | done | rfl) ?_
    with_reducible refine (tankardref11_Plain.calls 1000 a b c d e f _ _ HPlain.out).mono ?_
    rintro e' w8 ⟨v8, rfl, hm8, hb8⟩
    have q8 : Aside0 (Below w7.heap.size w7 w8) := ⟨below_step q0.out hb8⟩
    obtain ⟨A8, c8, rfl, hl8, hC8⟩ := Kd.R_reads hm8
    have S8 := Aside0.mk (And.intro hl8 hC8)
    clear hm8 hb8 hl8 hC8
    refine ⟨_, rfl, ?_⟩
    refine hK.out _ _ (HS.out _ q8.out) (fun hHeld => ?_)
    clear hK K
    refine norm_ (a' := ?_) ?_ ?_
    rotate_left
    · show Act.put _ (some 53) _ = _
      simp only [Act.put, List.setIfInBounds_toArray, List.set_cons_zero, List.set_cons_succ, i64_w, i32_w]
      rfl
    refine one_ (i := 7) (N := (some 54)) #[true, true, true, true, true, true, true, true, false, false, false] rfl rfl (by kernel_rfl) (by decide) (fun K hK => ?_)
    refine goes_ Tryd.func12 (by kernel_rfl) rfl #[.slice A8 (flatB (metaF a b c d e f)).length c8] (by rfl) rfl rfl (by (try simp only [List.map_toArray, List.map_cons, List.map_nil]); first | done | rfl) ?_
    with_reducible refine (tankardref01_Seal.calls 1000 A8 c8 _ _ _ S8.out.2 S8.out.1 HSlPlain.out).mono ?_
    rintro e' w9 ⟨v9, rfl, hm9, hb9⟩
    have q9 : Aside0 (Below w7.heap.size w7 w9) := ⟨below_step q8.out hb9⟩
    have j9 := Aside0.mk (conv_made (w := w1) hm9)
    rw [HXT.out] at j9
    clear hm9 hb9
    refine ⟨_, rfl, ?_⟩
    refine hK.out _ _ (HS.out _ q9.out) (fun hHeld => ?_)
    clear hK K
    refine norm_ (a' := ?_) ?_ ?_
    rotate_left
    · show Act.put _ (some 54) _ = _
      simp only [Act.put, List.setIfInBounds_toArray, List.set_cons_zero, List.set_cons_succ, i64_w, i32_w]
      rfl
    refine one_ (i := 8) (N := (some 55)) #[true, true, true, true, true, true, true, true, true, false, false] rfl rfl (by kernel_rfl) (by decide) (fun K hK => ?_)
    refine value_ (v := .string (strOfNums (metaBytes a b c d e f))) (w1 := w9) (by rfl) rfl (by have := j9.out; go_simp) ?_
    refine hK.out _ _ (HS.out _ q9.out) (fun hHeld => ?_)
    clear hK K
    refine norm_ (a' := ?_) ?_ ?_
    rotate_left
    · show Act.put _ (some 55) _ = _
      simp only [Act.put, List.setIfInBounds_toArray, List.set_cons_zero, List.set_cons_succ, i64_w, i32_w]
      rfl
    refine pure_ (i := 9) (N := (some 56)) (v := ?_) (a' := ?_) #[true, true, true, true, true, true, true, true, true, true, false] rfl rfl (by kernel_rfl) (fun _ _ _ h => h) (Or.inl ⟨by rfl, ?_⟩) ?_ ?_
    rotate_left
    · intro w'
      go_simp
      with_reducible rfl
    rotate_left
    · simp only [Act.put, List.setIfInBounds_toArray, List.set_cons_zero, List.set_cons_succ, i64_w, i32_w]
      rfl
    refine pure_ (i := 10) (N := (some 57)) (v := ?_) (a' := ?_) #[true, true, true, true, true, true, true, true, true, true, true] rfl rfl (by kernel_rfl) (fun _ _ _ h => h) (Or.inl ⟨by rfl, ?_⟩) ?_ ?_
    rotate_left
    · intro w'
      go_simp
      with_reducible rfl
    rotate_left
    · simp only [Act.put, List.setIfInBounds_toArray, List.set_cons_zero, List.set_cons_succ, i64_w, i32_w]
      rfl
    refine done_ (by kernel_rfl) ?_
    go_wp2
    go_meet
    case rel => exact ⟨by first | rfl | simp, q9⟩
  case rest =>
    obtain ⟨rfl, HQ⟩ := hcut
    have H8 := Aside0.mk (below_step H7.out HQ.out)
    clear z0 z1 z2 z3 z4 z5 z6 z7 z8
    obtain ⟨z0, z1, z2, z3, z4, z5, z6, z7, z8⟩ := HCC.out _ H8.out
    go_wp2
    go_ret
    exact ⟨rfl, below_step HB.out H8.out⟩
set_option maxHeartbeats 1600000 in
set_option maxRecDepth 100000 in
theorem puts_ny (a b c d e f x y z : Int) (w : World) (hg : Gl w) (ha : a < 18446744073709551616) (hx : x < 18446744073709551616) (hz0 : 0 ≤ z) (hz : z < 18446744073709551616) (hm : mayB a b c d e f = false) (hf : fairB x y z = true) :
    Calls Tryd.prog 3 #[.agg #[.int .u64 a, .int .i64 b, .int .i64 c, .int .i64 d, .int .i64 e, .int .i64 f], .agg #[.int .u64 x, .int .i64 y, .int .u64 z]] w fun e' w' => e' = .returned (.bool true) ∧ Below w.heap.size w w' := by
  have hu24 := Tryd.underlying24
  have hu26 := Tryd.underlying26
  have hu30 := Tryd.underlying30
  have hE := fun W => eql_code W 1 1
  have hN := fun W => neq_code W 1 1
  have HPut := Aside0.mk (fun W => meta_Put_no a b c d e f W hm)
  have HMark := Aside0.mk (fun W => meta_Mark_yes x y z W hf hx hz0 hz)
  have HMay := Aside0.mk ((meta_May_f a b c d e f).trans (congrArg some hm))
  have HRMay := Aside0.mk ((ref_May_f a b c d e f).trans (congrArg some hm))
  have HFair := Aside0.mk ((meta_Fair_f x y z).trans (congrArg some hf))
  have HRFair := Aside0.mk ((ref_Fair_f x y z).trans (congrArg some hf))
  obtain ⟨f1, f2, f3, f4⟩ : 1 ≤ x ∧ 0 ≤ y ∧ y ≤ 1099511627776 ∧ z ≠ x := of_decide_eq_true hf
  have HBare := Aside0.mk (bare_f f1 hx f2 f3 hz0 hz 1000 (by omega))
  have hfl := flatB_len (markF x y z) (markF_ok f3 hx hz)
  have HSlBare := Aside0.mk (seal_f (flatB (markF x y z)) (flatB_bytes _) (by rw [show (markF x y z).length = 3 from rfl] at hfl; omega) 1000 (by rw [show (markF x y z).length = 3 from rfl] at hfl; omega))
  clear f1 f2 f3 f4 hfl
  clear hm hf ha hx hz0 hz
  obtain ⟨W0, hW0⟩ : ∃ W0, (w.alloc (.cells #[.int .u64 a, .int .i64 b, .int .i64 c, .int .i64 d, .int .i64 e, .int .i64 f] 24)).alloc (.cells #[.int .u64 x, .int .i64 y, .int .u64 z] 26) = W0 := ⟨_, rfl⟩
  have HB := Aside0.mk (show Below w.heap.size w W0 by rw [← hW0]; exact below_alloc (below_alloc (Below.refl _ _) _) _)
  have HC : ∀ W, Below W0.heap.size W0 W → _ := fun W hb => cells9 (two_blocks w _ _ _ _ (by rw [hW0]; exact hb) : W.heap[w.heap.size]? = some (.cells #[.int .u64 a, .int .i64 b, .int .i64 c, .int .i64 d, .int .i64 e, .int .i64 f] 24 (0, 0)) ∧ W.heap[w.heap.size + 1]? = some (.cells #[.int .u64 x, .int .i64 y, .int .u64 z] 26 (0, 0)))
  have HCC := Aside0.mk HC
  clear HC
  have HW0 := Aside0.mk hW0
  clear hW0
  go_enter Tryd.func3, Tryd.ntmps3
  go_wp2_with fail
  rw [HW0.out]
  refine (up_true _ (hg.below HB.out)).mono ?_
  rintro e' w1 ⟨rfl, hb⟩
  have H1 := Aside0.mk hb
  obtain ⟨z0, z1, z2, z3, z4, z5, z6, z7, z8⟩ := HCC.out _ hb
  clear hb
  go_wp2_with fail
  refine (HPut.out _).mono ?_
  rintro e' w2 ⟨rfl, hb⟩
  have H2 := Aside0.mk (below_step H1.out hb)
  clear hb z0 z1 z2 z3 z4 z5 z6 z7 z8
  obtain ⟨z0, z1, z2, z3, z4, z5, z6, z7, z8⟩ := HCC.out _ H2.out
  go_wp2_with fail
  refine (HMark.out _).mono ?_
  rintro e' w3 ⟨v', rfl, hv', hb⟩
  have HV' := Aside0.mk hv'
  clear hv'
  have H3 := Aside0.mk (below_step H2.out hb)
  have N3 := Aside0.mk hb
  clear hb z0 z1 z2 z3 z4 z5 z6 z7 z8
  obtain ⟨z0, z1, z2, z3, z4, z5, z6, z7, z8⟩ := HCC.out _ H3.out
  go_wp2_with fail
  refine (tankardref11_May.calls a b c d e f false _ HRMay.out).mono ?_
  rintro e' w4 ⟨rfl, hb⟩
  have H4 := Aside0.mk (below_step H3.out hb)
  have N4 := Aside0.mk hb
  clear hb z0 z1 z2 z3 z4 z5 z6 z7 z8
  obtain ⟨z0, z1, z2, z3, z4, z5, z6, z7, z8⟩ := HCC.out _ H4.out
  go_wp2_with fail
  refine (tankardref11_Fair.calls x y z true _ HRFair.out).mono ?_
  rintro e' w5 ⟨rfl, hb⟩
  have H5 := Aside0.mk (below_step H4.out hb)
  have N5 := Aside0.mk hb
  clear hb z0 z1 z2 z3 z4 z5 z6 z7 z8
  obtain ⟨z0, z1, z2, z3, z4, z5, z6, z7, z8⟩ := HCC.out _ H5.out
  go_wp2_with fail
  refine (meta_May.calls a b c d e f false _ HMay.out).mono ?_
  rintro e' w6 ⟨rfl, hb⟩
  have H6 := Aside0.mk (below_step H5.out hb)
  have N6 := Aside0.mk hb
  clear hb z0 z1 z2 z3 z4 z5 z6 z7 z8
  obtain ⟨z0, z1, z2, z3, z4, z5, z6, z7, z8⟩ := HCC.out _ H6.out
  go_wp2_with fail
  refine (meta_Fair.calls x y z true _ HFair.out).mono ?_
  rintro e' w7 ⟨rfl, hb⟩
  have H7 := Aside0.mk (below_step H6.out hb)
  have N7 := Aside0.mk hb
  clear hb z0 z1 z2 z3 z4 z5 z6 z7 z8
  obtain ⟨z0, z1, z2, z3, z4, z5, z6, z7, z8⟩ := HCC.out _ H7.out
  have HVF := Aside0.mk (Kd.R_below (Kd.R_below (Kd.R_below (Kd.R_below HV'.out N4.out) N5.out) N6.out) N7.out)
  go_upto_region 15 with (fail)
  go_cut [4] (fun vv wd => vv = .bool true ∧ Aside0 (Below w7.heap.size w7 wd))
  case first =>
    have HS := Aside0.mk (show ∀ W, Below w7.heap.size w7 W → ((convert 28 9 v').run Tryd.prog W = .ok (.string (strOfNums (markBytes x y z))) W ∧ W.cell? ⟨w.heap.size + 1, 0, none⟩ = some (.int .u64 x) ∧ W.cell? ⟨w.heap.size + 1, 1, none⟩ = some (.int .i64 y) ∧ W.cell? ⟨w.heap.size + 1, 2, none⟩ = some (.int .u64 z)) from fun W hb => by
      obtain ⟨y0, y1, y2, y3, y4, y5, y6, y7, y8⟩ := HCC.out _ (below_step H7.out hb)
      exact ⟨conv_made (w := w1) (Kd.R_below HVF.out hb), y6, y7, y8⟩)
    have q0 : Aside0 (Below w7.heap.size w7 w7.drew) := ⟨(Below.refl _ _).drew⟩
    clear z0 z1 z2 z3 z4 z5 z6 z7 z8
    have HXT := Aside0.mk (show sealed (flatB (markF x y z)) = markBytes x y z from rfl)
    refine start_ (n := 15) (S := fun W => (convert 28 9 v').run Tryd.prog W = .ok (.string (strOfNums (markBytes x y z))) W ∧ W.cell? ⟨w.heap.size + 1, 0, none⟩ = some (.int .u64 x) ∧ W.cell? ⟨w.heap.size + 1, 1, none⟩ = some (.int .i64 y) ∧ W.cell? ⟨w.heap.size + 1, 2, none⟩ = some (.int .u64 z)) (ds := []) #[false, false, false, false, false, false, false, false, false, false, false, false, false, false, false] (by kernel_rfl) rfl rfl (HS.out _ q0.out) (fun hHeld => ?_)
    refine pure_ (i := 0) (N := (some 71)) (v := ?_) (a' := ?_) #[true, false, false, false, false, false, false, false, false, false, false, false, false, false, false] rfl rfl (by kernel_rfl) (fun _ _ _ h => h) (Or.inl ⟨by rfl, ?_⟩) ?_ ?_
    rotate_left
    · intro w'
      go_simp
      with_reducible rfl
    rotate_left
    · simp only [Act.put, List.setIfInBounds_toArray, List.set_cons_zero, List.set_cons_succ, i64_w, i32_w]
      rfl
    refine pure_ (i := 1) (N := (some 72)) (v := ?_) (a' := ?_) #[true, true, false, false, false, false, false, false, false, false, false, false, false, false, false] rfl rfl (by kernel_rfl) (fun _ _ _ h => h) (Or.inl ⟨by rfl, ?_⟩) ?_ ?_
    rotate_left
    · intro w'
      go_simp
      with_reducible rfl
    rotate_left
    · simp only [Act.put, List.setIfInBounds_toArray, List.set_cons_zero, List.set_cons_succ, i64_w, i32_w]
      rfl
    refine pure_ (i := 2) (N := (some 73)) (v := ?_) (a' := ?_) #[true, true, true, false, false, false, false, false, false, false, false, false, false, false, false] rfl rfl (by kernel_rfl) (fun _ _ _ h => h) (Or.inl ⟨by rfl, ?_⟩) ?_ ?_
    rotate_left
    · intro w'
      go_simp
      with_reducible rfl
    rotate_left
    · simp only [Act.put, List.setIfInBounds_toArray, List.set_cons_zero, List.set_cons_succ, i64_w, i32_w]
      rfl
    refine pure_ (i := 3) (N := (some 74)) (v := ?_) (a' := ?_) #[true, true, true, true, false, false, false, false, false, false, false, false, false, false, false] rfl rfl (by kernel_rfl) (fun _ _ _ h => h) (Or.inl ⟨by rfl, ?_⟩) ?_ ?_
    rotate_left
    · intro w'
      go_simp
      with_reducible rfl
    rotate_left
    · simp only [Act.put, List.setIfInBounds_toArray, List.set_cons_zero, List.set_cons_succ, i64_w, i32_w]
      rfl
    refine pure_ (i := 4) (N := (some 75)) (v := ?_) (a' := ?_) #[true, true, true, true, true, false, false, false, false, false, false, false, false, false, false] rfl rfl (by kernel_rfl) (fun _ _ _ h => h) (Or.inl ⟨by rfl, ?_⟩) ?_ ?_
    rotate_left
    · intro w'
      go_simp
      with_reducible rfl
    rotate_left
    · simp only [Act.put, List.setIfInBounds_toArray, List.set_cons_zero, List.set_cons_succ, i64_w, i32_w]
      rfl
    refine pure_ (i := 5) (N := (some 76)) (v := ?_) (a' := ?_) #[true, true, true, true, true, true, false, false, false, false, false, false, false, false, false] rfl rfl (by kernel_rfl) (fun _ _ _ h => h) (Or.inl ⟨by rfl, ?_⟩) ?_ ?_
    rotate_left
    · intro w'
      go_simp
      with_reducible rfl
    rotate_left
    · simp only [Act.put, List.setIfInBounds_toArray, List.set_cons_zero, List.set_cons_succ, i64_w, i32_w]
      rfl
    refine pure_ (i := 6) (N := (some 77)) (v := ?_) (a' := ?_) #[true, true, true, true, true, true, true, false, false, false, false, false, false, false, false] rfl rfl (by kernel_rfl) (fun _ _ _ h => h) (Or.inl ⟨by rfl, ?_⟩) ?_ ?_
    rotate_left
    · intro w'
      go_simp
      with_reducible rfl
    rotate_left
    · simp only [Act.put, List.setIfInBounds_toArray, List.set_cons_zero, List.set_cons_succ, i64_w, i32_w]
      rfl
    refine take_ (i := 7) (N := (some 78)) (v := ?_) (a' := ?_) #[true, true, true, true, true, true, true, true, false, false, false, false, false, false, false] rfl rfl (by kernel_rfl) (fun _ _ _ h => h) (Or.inl ⟨by rfl, ?_⟩) hHeld ?_ ?_
    rotate_left
    · rintro w' ⟨s0, s1, s2, s3⟩
      go_simp
      with_reducible rfl
    rotate_left
    · simp only [Act.put, List.setIfInBounds_toArray, List.set_cons_zero, List.set_cons_succ, i64_w, i32_w]
      rfl
    refine take_ (i := 8) (N := (some 79)) (v := ?_) (a' := ?_) #[true, true, true, true, true, true, true, true, true, false, false, false, false, false, false] rfl rfl (by kernel_rfl) (fun _ _ _ h => h) (Or.inl ⟨by rfl, ?_⟩) hHeld ?_ ?_
    rotate_left
    · rintro w' ⟨s0, s1, s2, s3⟩
      go_simp
      with_reducible rfl
    rotate_left
    · simp only [Act.put, List.setIfInBounds_toArray, List.set_cons_zero, List.set_cons_succ, i64_w, i32_w]
      rfl
    refine one_ (i := 9) (N := (some 80)) #[true, true, true, true, true, true, true, true, true, true, false, false, false, false, false] rfl rfl (by kernel_rfl) (by decide) (fun K hK => ?_)
    refine goes_ Tryd.func14 (by kernel_rfl) rfl #[.agg #[.int .u64 x, .int .i64 y, .int .u64 z]] (by rfl) rfl rfl (by (try simp only [List.map_toArray, List.map_cons, List.map_nil]); first | done | rfl) ?_
    with_reducible refine (tankardref11_Bare.calls 1000 x y z _ _ HBare.out).mono ?_
    rintro e' w8 ⟨v8, rfl, hm8, hb8⟩
    have q8 : Aside0 (Below w7.heap.size w7 w8) := ⟨below_step q0.out hb8⟩
    obtain ⟨A8, c8, rfl, hl8, hC8⟩ := Kd.R_reads hm8
    have S8 := Aside0.mk (And.intro hl8 hC8)
    clear hm8 hb8 hl8 hC8
    refine ⟨_, rfl, ?_⟩
    refine hK.out _ _ (HS.out _ q8.out) (fun hHeld => ?_)
    clear hK K
    refine norm_ (a' := ?_) ?_ ?_
    rotate_left
    · show Act.put _ (some 80) _ = _
      simp only [Act.put, List.setIfInBounds_toArray, List.set_cons_zero, List.set_cons_succ, i64_w, i32_w]
      rfl
    refine one_ (i := 10) (N := (some 81)) #[true, true, true, true, true, true, true, true, true, true, true, false, false, false, false] rfl rfl (by kernel_rfl) (by decide) (fun K hK => ?_)
    refine goes_ Tryd.func12 (by kernel_rfl) rfl #[.slice A8 (flatB (markF x y z)).length c8] (by rfl) rfl rfl (by (try simp only [List.map_toArray, List.map_cons, List.map_nil]); first | done | rfl) ?_
    with_reducible refine (tankardref01_Seal.calls 1000 A8 c8 _ _ _ S8.out.2 S8.out.1 HSlBare.out).mono ?_
    rintro e' w9 ⟨v9, rfl, hm9, hb9⟩
    have q9 : Aside0 (Below w7.heap.size w7 w9) := ⟨below_step q8.out hb9⟩
    have j9 := Aside0.mk (conv_made (w := w1) hm9)
    rw [HXT.out] at j9
    clear hm9 hb9
    refine ⟨_, rfl, ?_⟩
    refine hK.out _ _ (HS.out _ q9.out) (fun hHeld => ?_)
    clear hK K
    refine norm_ (a' := ?_) ?_ ?_
    rotate_left
    · show Act.put _ (some 81) _ = _
      simp only [Act.put, List.setIfInBounds_toArray, List.set_cons_zero, List.set_cons_succ, i64_w, i32_w]
      rfl
    refine one_ (i := 11) (N := (some 82)) #[true, true, true, true, true, true, true, true, true, true, true, true, false, false, false] rfl rfl (by kernel_rfl) (by decide) (fun K hK => ?_)
    refine value_ (v := .string (strOfNums (markBytes x y z))) (w1 := w9) (by rfl) rfl (by have := j9.out; go_simp) ?_
    refine hK.out _ _ (HS.out _ q9.out) (fun hHeld => ?_)
    clear hK K
    refine norm_ (a' := ?_) ?_ ?_
    rotate_left
    · show Act.put _ (some 82) _ = _
      simp only [Act.put, List.setIfInBounds_toArray, List.set_cons_zero, List.set_cons_succ, i64_w, i32_w]
      rfl
    refine pure_ (i := 12) (N := (some 83)) (v := ?_) (a' := ?_) #[true, true, true, true, true, true, true, true, true, true, true, true, true, false, false] rfl rfl (by kernel_rfl) (fun _ _ _ h => h) (Or.inl ⟨by rfl, ?_⟩) ?_ ?_
    rotate_left
    · intro w'
      go_simp
      with_reducible rfl
    rotate_left
    · simp only [Act.put, List.setIfInBounds_toArray, List.set_cons_zero, List.set_cons_succ, i64_w, i32_w]
      rfl
    refine pure_ (i := 13) (N := (some 84)) (v := ?_) (a' := ?_) #[true, true, true, true, true, true, true, true, true, true, true, true, true, true, false] rfl rfl (by kernel_rfl) (fun _ _ _ h => h) (Or.inl ⟨by rfl, ?_⟩) ?_ ?_
    rotate_left
    · intro w'
      go_simp
      with_reducible rfl
    rotate_left
    · simp only [Act.put, List.setIfInBounds_toArray, List.set_cons_zero, List.set_cons_succ, i64_w, i32_w]
      rfl
    refine pure_ (i := 14) (N := (some 4)) (v := ?_) (a' := ?_) #[true, true, true, true, true, true, true, true, true, true, true, true, true, true, true] rfl rfl (by kernel_rfl) (fun _ _ _ h => h) (Or.inl ⟨by rfl, ?_⟩) ?_ ?_
    rotate_left
    · intro w'
      go_simp
      with_reducible rfl
    rotate_left
    · simp only [Act.put, List.setIfInBounds_toArray, List.set_cons_zero, List.set_cons_succ, i64_w, i32_w]
      rfl
    refine done_ (by kernel_rfl) ?_
    go_wp2
    go_meet
    case rel => exact ⟨by first | rfl | simp, q9⟩
  case rest =>
    obtain ⟨rfl, HQ2⟩ := hcut
    go_wp2
    go_ret
    exact ⟨rfl, below_step HB.out (below_step H7.out HQ2.out)⟩
set_option maxHeartbeats 1600000 in
set_option maxRecDepth 100000 in
theorem puts_nn (a b c d e f x y z : Int) (w : World) (hg : Gl w) (ha : a < 18446744073709551616) (hx : x < 18446744073709551616) (hz0 : 0 ≤ z) (hz : z < 18446744073709551616) (hm : mayB a b c d e f = false) (hf : fairB x y z = false) :
    Calls Tryd.prog 3 #[.agg #[.int .u64 a, .int .i64 b, .int .i64 c, .int .i64 d, .int .i64 e, .int .i64 f], .agg #[.int .u64 x, .int .i64 y, .int .u64 z]] w fun e' w' => e' = .returned (.bool true) ∧ Below w.heap.size w w' := by
  have hu24 := Tryd.underlying24
  have hu26 := Tryd.underlying26
  have hu30 := Tryd.underlying30
  have hE := fun W => eql_code W 1 1
  have hN := fun W => neq_code W 1 1
  have HPut := Aside0.mk (fun W => meta_Put_no a b c d e f W hm)
  have HMark := Aside0.mk (fun W => meta_Mark_no x y z W hf)
  have HMay := Aside0.mk ((meta_May_f a b c d e f).trans (congrArg some hm))
  have HRMay := Aside0.mk ((ref_May_f a b c d e f).trans (congrArg some hm))
  have HFair := Aside0.mk ((meta_Fair_f x y z).trans (congrArg some hf))
  have HRFair := Aside0.mk ((ref_Fair_f x y z).trans (congrArg some hf))
  clear hm hf ha hx hz0 hz
  obtain ⟨W0, hW0⟩ : ∃ W0, (w.alloc (.cells #[.int .u64 a, .int .i64 b, .int .i64 c, .int .i64 d, .int .i64 e, .int .i64 f] 24)).alloc (.cells #[.int .u64 x, .int .i64 y, .int .u64 z] 26) = W0 := ⟨_, rfl⟩
  have HB := Aside0.mk (show Below w.heap.size w W0 by rw [← hW0]; exact below_alloc (below_alloc (Below.refl _ _) _) _)
  have HC : ∀ W, Below W0.heap.size W0 W → _ := fun W hb => cells9 (two_blocks w _ _ _ _ (by rw [hW0]; exact hb) : W.heap[w.heap.size]? = some (.cells #[.int .u64 a, .int .i64 b, .int .i64 c, .int .i64 d, .int .i64 e, .int .i64 f] 24 (0, 0)) ∧ W.heap[w.heap.size + 1]? = some (.cells #[.int .u64 x, .int .i64 y, .int .u64 z] 26 (0, 0)))
  have HCC := Aside0.mk HC
  clear HC
  have HW0 := Aside0.mk hW0
  clear hW0
  go_enter Tryd.func3, Tryd.ntmps3
  go_wp2_with fail
  rw [HW0.out]
  refine (up_true _ (hg.below HB.out)).mono ?_
  rintro e' w1 ⟨rfl, hb⟩
  have H1 := Aside0.mk hb
  obtain ⟨z0, z1, z2, z3, z4, z5, z6, z7, z8⟩ := HCC.out _ hb
  clear hb
  go_wp2_with fail
  refine (HPut.out _).mono ?_
  rintro e' w2 ⟨rfl, hb⟩
  have H2 := Aside0.mk (below_step H1.out hb)
  clear hb z0 z1 z2 z3 z4 z5 z6 z7 z8
  obtain ⟨z0, z1, z2, z3, z4, z5, z6, z7, z8⟩ := HCC.out _ H2.out
  go_wp2_with fail
  refine (HMark.out _).mono ?_
  rintro e' w3 ⟨rfl, hb⟩
  have H3 := Aside0.mk (below_step H2.out hb)
  have N3 := Aside0.mk hb
  clear hb z0 z1 z2 z3 z4 z5 z6 z7 z8
  obtain ⟨z0, z1, z2, z3, z4, z5, z6, z7, z8⟩ := HCC.out _ H3.out
  go_wp2_with fail
  refine (tankardref11_May.calls a b c d e f false _ HRMay.out).mono ?_
  rintro e' w4 ⟨rfl, hb⟩
  have H4 := Aside0.mk (below_step H3.out hb)
  have N4 := Aside0.mk hb
  clear hb z0 z1 z2 z3 z4 z5 z6 z7 z8
  obtain ⟨z0, z1, z2, z3, z4, z5, z6, z7, z8⟩ := HCC.out _ H4.out
  go_wp2_with fail
  refine (tankardref11_Fair.calls x y z false _ HRFair.out).mono ?_
  rintro e' w5 ⟨rfl, hb⟩
  have H5 := Aside0.mk (below_step H4.out hb)
  have N5 := Aside0.mk hb
  clear hb z0 z1 z2 z3 z4 z5 z6 z7 z8
  obtain ⟨z0, z1, z2, z3, z4, z5, z6, z7, z8⟩ := HCC.out _ H5.out
  go_wp2_with fail
  refine (meta_May.calls a b c d e f false _ HMay.out).mono ?_
  rintro e' w6 ⟨rfl, hb⟩
  have H6 := Aside0.mk (below_step H5.out hb)
  have N6 := Aside0.mk hb
  clear hb z0 z1 z2 z3 z4 z5 z6 z7 z8
  obtain ⟨z0, z1, z2, z3, z4, z5, z6, z7, z8⟩ := HCC.out _ H6.out
  go_wp2_with fail
  refine (meta_Fair.calls x y z false _ HFair.out).mono ?_
  rintro e' w7 ⟨rfl, hb⟩
  have H7 := Aside0.mk (below_step H6.out hb)
  have N7 := Aside0.mk hb
  clear hb z0 z1 z2 z3 z4 z5 z6 z7 z8
  obtain ⟨z0, z1, z2, z3, z4, z5, z6, z7, z8⟩ := HCC.out _ H7.out
  go_wp2
  go_ret
  exact ⟨rfl, below_step HB.out H7.out⟩
end Go.Proofs.YtbfmjbkhnbpbgaaDoor.H
