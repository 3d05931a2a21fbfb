/- MetaPuts answers true at every input: the statement of the given row and its card are proved in full, with no further condition. -/
import Derived.Test.YtbfmjbkhnbpbgaaDoorPuts
import Derived.Test.YtbfmjbkhnbpbgaaDoorLaid
import Derived.Test.YtbfmjbkhnbpbgaaDoorCards
import Derived.Test.YtbfmjbkhnbpbgaaDoorTie
import Derived.WalkKit
import Derived.ProofKit
set_option linter.unusedVariables false
namespace Go.Proofs.YtbfmjbkhnbpbgaaDoor.H
open Go.RowKit Go.ChangeShapes Go.WideShapes Go.ChangeAt Go.Deep Go.Joins
theorem puts_all (a b c d e f x y z : Int) (w : World) (hg : Gl w) (ha : a < 18446744073709551616) (hx : x < 18446744073709551616) (hz0 : 0 ≤ z) (hz : z < 18446744073709551616) :
    Calls Tryd.prog 3 #[.agg #[.int .u64 a, .int .i64 b, .int .i64 c, .int .i64 d, .int .i64 e, .int .i64 f], .agg #[.int .u64 x, .int .i64 y, .int .u64 z]] w fun e' w' => e' = .returned (.bool true) ∧ Below w.heap.size w w' := by
  cases hm : mayB a b c d e f <;> cases hf : fairB x y z
  · exact puts_nn a b c d e f x y z w hg ha hx hz0 hz hm hf
  · exact puts_ny a b c d e f x y z w hg ha hx hz0 hz hm hf
  · exact puts_yn a b c d e f x y z w hg ha hx hz0 hz hm hf
  · exact puts_yy a b c d e f x y z w hg ha hx hz0 hz hm hf
theorem u64_bounds {n : Int} (h : (Lit.int .u64 n).wf = true) : 0 ≤ n ∧ n < 18446744073709551616 := by
  simp only [Lit.wf, Bool.and_eq_true, decide_eq_true_eq] at h
  have h1 : IntKind.u64.min = 0 := by decide
  have h2 : IntKind.u64.max = 18446744073709551615 := by decide
  omega
set_option maxRecDepth 100000 in
theorem puts_contract (H : Type) (enc : TypeId × Value → H) (W : World) (base : Nat) (args : Array Value) (ds gs : List (DataW H)) (before : List MemPlace)
    (hval : ∀ (j : Nat) t v, Tryd.f3.params[j]? = some t → args[j]? = some v → Value.okWide Tryd.prog W .any base t v)
    (hW : DataW.Whole enc Tryd.prog Tryd.f3.params.toList Rows.metaPutsSpec.vars false W args.toList ds gs before) (hL : laidMetH Tryd.prog Rows.metaPutsRow.laid W) (hS : W.ShapedOpen Tryd.prog) :
    Calls Tryd.prog 3 args W fun e W' => ∃ v, e = .returned v ∧ Rows.metaPutsSpec.post enc Tryd.prog Tryd.f3 false true false false W args v W' := by
  have hW' := hW
  obtain ⟨p, q, hA0, hV, rfl, hfz, hnd⟩ := hW
  have hA : DataW.TrodAll enc Tryd.prog W 0 (fun _ => true) true Tryd.f3.params.toList args.toList ds p := hA0
  rw [Tryd.params3] at hA hval
  obtain ⟨v0, vs0, d0, ds0, p0, q0, hargs, rfl, rfl, h0, r0⟩ := trodAll_cons hA
  obtain ⟨v1, vs1, d1, ds1, p1, q1, rfl, rfl, rfl, h1, r1⟩ := trodAll_cons r0
  obtain ⟨rfl, rfl, rfl⟩ := trodAll_nil r1
  obtain rfl : args = #[v0, v1] := by cases args; simp_all
  obtain ⟨rfl, rfl⟩ := trodVars_none hV
  obtain ⟨a, b, c, d, e, f, rfl, rfl, rfl, w0, w1, w2, w3, w4, w5⟩ := open_meta (hval 0 24 v0 rfl rfl) h0
  obtain ⟨x, y, z, rfl, rfl, rfl, k0, k1, k2⟩ := open_mark (hval 1 26 v1 rfl rfl) h1
  clear hA0
  simp only [List.append_nil] at hW'
  refine (puts_all a b c d e f x y z W (gl_of hL hS) (u64_bounds w0).2 (u64_bounds k0).2 (u64_bounds k2).1 (u64_bounds k2).2).mono fun e W' ⟨he, hg⟩ => ?_
  subst he
  exact ⟨_, rfl, _, _, _, [], [], [], hW', trodAll_cons_mk (shut_bool Tryd.underlying4 _) trodAll_mk0,
    trodAll_cons_mk (shut_meta w0 w1 w2 w3 w4 w5) (trodAll_cons_mk (shut_mark k0 k1 k2) trodAll_mk0), rfl, hg.frame _, fun h => by cases h⟩
def metaArgs : Array Value := #[.agg #[.int .u64 0, .int .i64 0, .int .i64 0, .int .i64 0, .int .i64 0, .int .i64 0], .agg #[.int .u64 0, .int .i64 0, .int .u64 0]]
theorem puts_reads (os : Os) {H : Type} (enc : TypeId × Value → H) : ∃ places, DataW.whole enc Tryd.prog ((laidWorld os).forCall (fun _ _ => 0) ⟨#[], metaArgs, []⟩).memory Tryd.f3.params.toList Rows.metaPutsSpec.vars false metaArgs.toList 8 = some ([.agg [.lit (.int .u64 0), .lit (.int .i64 0), .lit (.int .i64 0), .lit (.int .i64 0), .lit (.int .i64 0), .lit (.int .i64 0)], .agg [.lit (.int .u64 0), .lit (.int .i64 0), .lit (.int .u64 0)]], [], places) :=
  ⟨[], by kernel_rfl⟩
set_option maxRecDepth 100000 in
theorem puts_lifted (os : Os) (started : os.Started) (H : Type) (enc : TypeId × Value → H) (F : Stop.Interp) :
    ReturnsInHanded {} Tryd.checked os 3 .any ((OpenSpec.ofChange Rows.metaPutsSpec).preRow enc Tryd.prog Tryd.f3 Rows.metaPutsRow.domain false Rows.metaPutsRow.laid) (((OpenSpec.ofChange Rows.metaPutsSpec).at F).post enc Tryd.prog Tryd.f3 false true false false) := by
  obtain ⟨places, hx⟩ := puts_reads os enc
  refine returnsInHanded_of_row (C := Tryd.checked) (s := OpenSpec.ofChange Rows.metaPutsSpec) own started (by kernel_rfl) Tryd.func3
    (witness_row_at (enc := enc) (C := Tryd.checked) false (laidWorld os) metaArgs rfl (by kernel_rfl) (by kernel_rfl) (by kernel_rfl)
      (OpenSpec.preRow_of_cond 8 hx (by kernel_rfl) (fun k hk => by cases hk) (by kernel_rfl) (laid_met os _))) ?_
  intro W base args ds gs before hval hW _ _ _ hL hS _
  exact puts_contract H enc W base args ds gs before hval hW hL hS
theorem metaPuts_said : Rows.MetaPutsSaid :=
  OpenClaim.holds_of_cond 3 Tryd.f3 rfl rfl rfl rfl rfl rfl rfl ⟨rfl, rfl, rfl, rfl, rfl⟩ rfl rfl rfl rfl rfl (by kernel_rfl) Tryd.func3 (by kernel_rfl)
    (of_decide_eq_true (by kernel_rfl)) (by unfold Func.isWrapper; first | (rw [if_pos (by decide +kernel)]; kernel_rfl) | (rw [if_neg (by decide +kernel)]; exact ⟨rfl, rfl⟩))
    (fun os started H enc _ F => by rw [OpenClaim.pre_eq_preRow]; exact puts_lifted os started H enc F)
theorem puts_plain (f : FuncId) (fn : Func) (hf : Tryd.pinned.checked.prog.funcNamed "tankard/tankardlaw13.MetaPuts" = some f) (hfn : Tryd.pinned.checked.prog.funcs[f]? = some fn) :
    true = Tryd.pinned.checked.prog.looks [] ∧ ∀ (j : Nat) t, fn.params[j]? = some t → Tryd.pinned.checked.prog.wantsStandIn t = false := by
  obtain rfl : f = 3 := Option.some.inj ((show Tryd.prog.funcNamed "tankard/tankardlaw13.MetaPuts" = some 3 by kernel_rfl).symm.trans hf) |>.symm
  obtain rfl : fn = Tryd.f3 := (Option.some.inj (Tryd.func3.symm.trans hfn)).symm
  refine ⟨by kernel_rfl, fun j t ht => ?_⟩
  rw [Tryd.params3] at ht
  have := Array.mem_of_getElem? ht
  simp only [List.mem_toArray, List.mem_cons, List.mem_nil_iff, or_false] at this
  rcases this with rfl | rfl
  · exact (show Tryd.prog.wantsStandIn 24 = false by kernel_rfl)
  · exact (show Tryd.prog.wantsStandIn 26 = false by kernel_rfl)
/-- MetaPuts: the card. -/
theorem metaPuts_card : Rows.MetaPutsCardSaid :=
  Claim7.holds_tied_plain_at .later [] _ _ _ _ metaPuts_said (fun _ h => by cases h) (by kernel_rfl) (fun _ h => by cases h) metaPuts_row_tie rfl ⟨rfl, rfl⟩ (by kernel_rfl) rfl puts_plain (by kernel_rfl)
end Go.Proofs.YtbfmjbkhnbpbgaaDoor.H
