/- MetaBack answers true at every input: the statement of the given row and its card are proved in full, with no further condition. -/
import Derived.Test.YtbfmjbkhnbpbgaaDoorBack
import Derived.Test.YtbfmjbkhnbpbgaaDoorLaid
import Derived.Test.YtbfmjbkhnbpbgaaDoorCards
import Derived.Test.YtbfmjbkhnbpbgaaDoorTie
import Derived.WalkKit
import Derived.ProofKit
set_option linter.unusedVariables false
namespace Go.Proofs.YtbfmjbkhnbpbgaaDoor.H
open Go.RowKit Go.ChangeShapes Go.WideShapes Go.ChangeAt Go.Deep Go.Joins
theorem back_all (a b c d e f pos pg x u v : Int) (w : World) (hg : Gl w) (ha : a < 18446744073709551616) (hx0 : 0 ≤ x) (hx : x < 256) (hu0 : 0 ≤ u) (hu : u < 18446744073709551616) (hv0 : 0 ≤ v) (hv : v < 18446744073709551616) (hpg : pg ≤ 9223372036854775807) :
    Calls Tryd.prog 4 #[.agg #[.int .u64 a, .int .i64 b, .int .i64 c, .int .i64 d, .int .i64 e, .int .i64 f], .int .i64 pos, .int .u8 x, .int .u64 u, .int .u64 v, .int .i64 pg] w fun e' w' => e' = .returned (.bool true) ∧ Below w.heap.size w w' := by
  obtain ⟨x, rfl⟩ : ∃ n : Nat, x = n := ⟨x.toNat, by omega⟩
  obtain ⟨u, rfl⟩ : ∃ n : Nat, u = n := ⟨u.toNat, by omega⟩
  obtain ⟨v, rfl⟩ : ∃ n : Nat, v = n := ⟨v.toNat, by omega⟩
  cases hm : mayB a b c d e f
  · exact back_n a b c d e f pos pg x u v w hg ha (by omega) (by omega) (by omega) hpg hm
  · by_cases h1 : pos < 0
    · exact back_y1 a b c d e f pos pg x u v w hg ha (by omega) (by omega) (by omega) hpg hm h1
    · by_cases h2 : 35 ≤ pos
      · exact back_y2 a b c d e f pos pg x u v w hg ha (by omega) (by omega) (by omega) hpg hm h2
      · by_cases h3 : x = 0
        · exact back_y3 a b c d e f pos pg x u v w hg ha (by omega) (by omega) (by omega) hpg hm ⟨by omega, by omega, h3⟩
        · exact back_yw a b c d e f pos pg x u v w hg ha (by omega) (by omega) (by omega) hpg hm ⟨by omega, by omega, h3⟩
theorem kind_bounds {k : IntKind} {n : Int} (h : (Lit.int k n).wf = true) : k.min ≤ n ∧ n ≤ k.max := by
  simpa [Lit.wf] using h
set_option maxRecDepth 100000 in
theorem back_contract (H : Type) (enc : TypeId × Value → H) (W : World) (base : Nat) (args : Array Value) (ds gs : List (DataW H)) (before : List MemPlace)
    (hval : ∀ (j : Nat) t v, Tryd.f4.params[j]? = some t → args[j]? = some v → Value.okWide Tryd.prog W .any base t v)
    (hW : DataW.Whole enc Tryd.prog Tryd.f4.params.toList Rows.metaBackSpec.vars false W args.toList ds gs before) (hL : laidMetH Tryd.prog Rows.metaBackRow.laid W) (hS : W.ShapedOpen Tryd.prog) :
    Calls Tryd.prog 4 args W fun e W' => ∃ v, e = .returned v ∧ Rows.metaBackSpec.post enc Tryd.prog Tryd.f4 false true false false W args v W' := by
  have hW' := hW
  obtain ⟨p, q, hA0, hV, rfl, hfz, hnd⟩ := hW
  have hA : DataW.TrodAll enc Tryd.prog W 0 (fun _ => true) true Tryd.f4.params.toList args.toList ds p := hA0
  rw [Tryd.params4] at hA hval
  obtain ⟨v0, vs0, d0, ds0, p0, q0, hargs, rfl, rfl, h0, r0⟩ := trodAll_cons hA
  obtain ⟨v1, vs1, d1, ds1, p1, q1, rfl, rfl, rfl, h1, r1⟩ := trodAll_cons r0
  obtain ⟨v2, vs2, d2, ds2, p2, q2, rfl, rfl, rfl, h2, r2⟩ := trodAll_cons r1
  obtain ⟨v3, vs3, d3, ds3, p3, q3, rfl, rfl, rfl, h3, r3⟩ := trodAll_cons r2
  obtain ⟨v4, vs4, d4, ds4, p4, q4, rfl, rfl, rfl, h4, r4⟩ := trodAll_cons r3
  obtain ⟨v5, vs5, d5, ds5, p5, q5, rfl, rfl, rfl, h5, r5⟩ := trodAll_cons r4
  obtain ⟨rfl, rfl, rfl⟩ := trodAll_nil r5
  obtain rfl : args = #[v0, v1, v2, v3, v4, v5] := by cases args; simp_all
  obtain ⟨rfl, rfl⟩ := trodVars_none hV
  obtain ⟨a, b, c, d, e, f, rfl, rfl, rfl, w0, w1, w2, w3, w4, w5⟩ := open_meta (hval 0 24 v0 rfl rfl) h0
  obtain ⟨pos, rfl, rfl, rfl, k1⟩ := open_int Tryd.underlying3 (hval 1 3 v1 rfl rfl) h1
  obtain ⟨x, rfl, rfl, rfl, k2⟩ := open_int Tryd.underlying5 (hval 2 5 v2 rfl rfl) h2
  obtain ⟨u, rfl, rfl, rfl, k3⟩ := open_int Tryd.underlying22 (hval 3 22 v3 rfl rfl) h3
  obtain ⟨v, rfl, rfl, rfl, k4⟩ := open_int Tryd.underlying22 (hval 4 22 v4 rfl rfl) h4
  obtain ⟨pg, rfl, rfl, rfl, k5⟩ := open_int Tryd.underlying3 (hval 5 3 v5 rfl rfl) h5
  clear hA0
  simp only [List.append_nil] at hW'
  have a1 := kind_bounds w0
  have a2 := kind_bounds k2
  have a3 := kind_bounds k3
  have a4 := kind_bounds k4
  have a5 := kind_bounds k5
  have m1 : IntKind.u64.min = 0 := by decide
  have m2 : IntKind.u64.max = 18446744073709551615 := by decide
  have m3 : IntKind.u8.min = 0 := by decide
  have m4 : IntKind.u8.max = 255 := by decide
  have m5 : IntKind.i64.max = 9223372036854775807 := by decide
  refine (back_all a b c d e f pos pg x u v W (gl_of hL hS) (by omega) (by omega) (by omega) (by omega) (by omega) (by omega) (by omega) (by omega)).mono fun e W' ⟨he, hg⟩ => ?_
  subst he
  exact ⟨_, rfl, _, _, _, [], [], [], hW', trodAll_cons_mk (shut_bool Tryd.underlying4 _) trodAll_mk0,
    trodAll_cons_mk (shut_meta w0 w1 w2 w3 w4 w5) (trodAll_cons_mk (shut_int Tryd.underlying3 k1) (trodAll_cons_mk (shut_int Tryd.underlying5 k2) (trodAll_cons_mk (shut_int Tryd.underlying22 k3) (trodAll_cons_mk (shut_int Tryd.underlying22 k4) (trodAll_cons_mk (shut_int Tryd.underlying3 k5) trodAll_mk0))))), rfl, hg.frame _, fun h => by cases h⟩
def backArgs : Array Value := #[.agg #[.int .u64 0, .int .i64 0, .int .i64 0, .int .i64 0, .int .i64 0, .int .i64 0], .int .i64 0, .int .u8 0, .int .u64 0, .int .u64 0, .int .i64 0]
theorem back_reads (os : Os) {H : Type} (enc : TypeId × Value → H) : ∃ places, DataW.whole enc Tryd.prog ((laidWorld os).forCall (fun _ _ => 0) ⟨#[], backArgs, []⟩).memory Tryd.f4.params.toList Rows.metaBackSpec.vars false backArgs.toList 8 = some ([.agg [.lit (.int .u64 0), .lit (.int .i64 0), .lit (.int .i64 0), .lit (.int .i64 0), .lit (.int .i64 0), .lit (.int .i64 0)], .lit (.int .i64 0), .lit (.int .u8 0), .lit (.int .u64 0), .lit (.int .u64 0), .lit (.int .i64 0)], [], places) :=
  ⟨[], by kernel_rfl⟩
set_option maxRecDepth 100000 in
theorem back_lifted (os : Os) (started : os.Started) (H : Type) (enc : TypeId × Value → H) (F : Stop.Interp) :
    ReturnsInHanded {} Tryd.checked os 4 .any ((OpenSpec.ofChange Rows.metaBackSpec).preRow enc Tryd.prog Tryd.f4 Rows.metaBackRow.domain false Rows.metaBackRow.laid) (((OpenSpec.ofChange Rows.metaBackSpec).at F).post enc Tryd.prog Tryd.f4 false true false false) := by
  obtain ⟨places, hx⟩ := back_reads os enc
  refine returnsInHanded_of_row (C := Tryd.checked) (s := OpenSpec.ofChange Rows.metaBackSpec) own started (by kernel_rfl) Tryd.func4
    (witness_row_at (enc := enc) (C := Tryd.checked) false (laidWorld os) backArgs rfl (by kernel_rfl) (by kernel_rfl) (by kernel_rfl)
      (OpenSpec.preRow_of_cond 8 hx (by kernel_rfl) (fun k hk => by cases hk) (by kernel_rfl) (laid_met os _))) ?_
  intro W base args ds gs before hval hW _ _ _ hL hS _
  exact back_contract H enc W base args ds gs before hval hW hL hS
theorem metaBack_said : Rows.MetaBackSaid :=
  OpenClaim.holds_of_cond 4 Tryd.f4 rfl rfl rfl rfl rfl rfl rfl ⟨rfl, rfl, rfl, rfl, rfl⟩ rfl rfl rfl rfl rfl (by kernel_rfl) Tryd.func4 (by kernel_rfl)
    (of_decide_eq_true (by kernel_rfl)) (by unfold Func.isWrapper; first | (rw [if_pos (by decide +kernel)]; kernel_rfl) | (rw [if_neg (by decide +kernel)]; exact ⟨rfl, rfl⟩))
    (fun os started H enc _ F => by rw [OpenClaim.pre_eq_preRow]; exact back_lifted os started H enc F)
theorem back_plain (f : FuncId) (fn : Func) (hf : Tryd.pinned.checked.prog.funcNamed "tankard/tankardlaw13.MetaBack" = some f) (hfn : Tryd.pinned.checked.prog.funcs[f]? = some fn) :
    true = Tryd.pinned.checked.prog.looks [] ∧ ∀ (j : Nat) t, fn.params[j]? = some t → Tryd.pinned.checked.prog.wantsStandIn t = false := by
  obtain rfl : f = 4 := Option.some.inj ((show Tryd.prog.funcNamed "tankard/tankardlaw13.MetaBack" = some 4 by kernel_rfl).symm.trans hf) |>.symm
  obtain rfl : fn = Tryd.f4 := (Option.some.inj (Tryd.func4.symm.trans hfn)).symm
  refine ⟨by kernel_rfl, fun j t ht => ?_⟩
  rw [Tryd.params4] at ht
  have := Array.mem_of_getElem? ht
  simp only [List.mem_toArray, List.mem_cons, List.mem_nil_iff, or_false] at this
  rcases this with rfl | rfl | rfl | rfl | rfl | rfl
  · exact (show Tryd.prog.wantsStandIn 24 = false by kernel_rfl)
  · exact (show Tryd.prog.wantsStandIn 3 = false by kernel_rfl)
  · exact (show Tryd.prog.wantsStandIn 5 = false by kernel_rfl)
  · exact (show Tryd.prog.wantsStandIn 22 = false by kernel_rfl)
  · exact (show Tryd.prog.wantsStandIn 22 = false by kernel_rfl)
  · exact (show Tryd.prog.wantsStandIn 3 = false by kernel_rfl)
/-- MetaBack: the card. -/
theorem metaBack_card : Rows.MetaBackCardSaid :=
  Claim7.holds_tied_plain_at .later [] _ _ _ _ metaBack_said (fun _ h => by cases h) (by kernel_rfl) (fun _ h => by cases h) metaBack_row_tie rfl ⟨rfl, rfl⟩ (by kernel_rfl) rfl back_plain (by kernel_rfl)
end Go.Proofs.YtbfmjbkhnbpbgaaDoor.H
