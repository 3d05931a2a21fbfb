/- What the rows' lists of package variables give: the facts the walks ask (Gl); a world for the witness. Structs of integers by value: opened and shut. -/
import Derived.Test.YtbfmjbkhnbpbgaaGreatDoorFmt
import Derived.Test.YtbfmjbkhnbpbgaaGreatDoorRows
import Derived.OpenShut
import Derived.Deep.DeepHandedRow
import Derived.Lib.LaidTab
import Derived.Lib.LaidIn
import Derived.Lib.SmallJoins
import Derived.Stop.LaidErr
import Derived.Lib.LaidU8
namespace Go.Proofs.YtbfmjbkhnbpbgaaGreatDoor.H
open Go.RowKit Go.ChangeShapes Go.WideShapes Go.ChangeAt Go.Deep Go.Joins
theorem cellsMeta : Tryz.prog.cellsOf 26 = 6 := by kernel_rfl
theorem cellsMark : Tryz.prog.cellsOf 32 = 3 := by kernel_rfl
theorem cellsI64 : Tryz.prog.cellsOf 2 = 1 := by kernel_rfl
theorem cellsInt : Tryz.prog.cellsOf 3 = 1 := by kernel_rfl
theorem cellsU64 : Tryz.prog.cellsOf 24 = 1 := by kernel_rfl
theorem own : ownKnob Tryz.prog.godebug = none := by kernel_rfl
theorem gl_of {W : World} (h : laidMetH Tryz.prog Rows.metaGetsRow.laid W) (hs : W.ShapedOpen Tryz.prog) : Gl W := by
  have h' : laidMet Tryz.prog Rows.metaGetsRow.laid W := h
  have h1 := Lib.tabIs_of_head (name := "math/bits.deBruijn64tab") (k := .u8) (zs := [0, 1, 56, 2, 57, 49, 28, 3, 61, 58, 42, 50, 38, 29, 17, 4, 62, 47, 59, 36, 45, 43, 51, 22, 53, 39, 33, 30, 24, 18, 12, 5, 63, 55, 48, 27, 60, 41, 37, 16, 46, 35, 44, 21, 52, 32, 23, 11, 54, 26, 40, 15, 34, 20, 31, 10, 25, 14, 19, 9, 13, 8, 7, 6])
    gDb (show (Tryz.prog.globals[7]?).map (·.type) = some 149 by kernel_rfl) Tryz.underlying149 Tryz.underlying5 (by kernel_rfl) (by kernel_rfl) h'.tail
  have h2 := Lib.tabIs_of_head (name := "internal/strconv.uint64pow10") (k := .u64) (zs := Lib.pow10Tab)
    gP10 (show (Tryz.prog.globals[3]?).map (·.type) = some 136 by kernel_rfl) Tryz.underlying136 Tryz.underlying24 (by kernel_rfl) (by kernel_rfl) h'.tail.tail
  exact ⟨h1.cell gDb 15 (by decide), h2, hs⟩
noncomputable abbrev N0 : Nat := (World.settled Tryz.prog default).heap.size
/-- The settled world with two blocks more (the two errors' structs), the seven variables holding what their initialisers lay. -/
noncomputable def laidWorld (os : Os) : World :=
  let N := (World.settled Tryz.prog os).heap.size
  let w0 := World.holding Tryz.prog os ⟨#[
    .cells #[.string ⟨#[105, 110, 118, 97, 108, 105, 100, 32, 115, 121, 110, 116, 97, 120]⟩] 132, .cells #[.string ⟨#[118, 97, 108, 117, 101, 32, 111, 117, 116, 32, 111, 102, 32, 114, 97, 110, 103, 101]⟩] 132], #[], []⟩
  let put (h : Array Obj) (g : Nat) (cs : Array Value) : Array Obj := h.modify g fun
    | .cells _ t frozen => .cells cs t frozen
    | o => o
  let h0 := put (put w0.heap 0 #[.iface 130 (.pointer (some ⟨N, 0, none⟩))]) 1 #[.iface 130 (.pointer (some ⟨N + 1, 0, none⟩))]
  let h1 := put h0 4 (Lib.firstTab.map fun z => Value.int .u8 z).toArray
  let h2 := put h1 5 ((List.range 16).flatMap fun i => [Value.int .u8 (Lib.accLo i), Value.int .u8 (Lib.accHi i)]).toArray
  let h3 := put h2 3 (Lib.pow10Tab.map fun z => Value.int .u64 z).toArray
  let h4 := put h3 6 (([0, 1, 28, 2, 29, 14, 24, 3, 30, 22, 20, 15, 25, 17, 4, 8, 31, 27, 13, 23, 21, 19, 16, 7, 26, 12, 18, 6, 11, 5, 10, 9] : List Int).map fun z => Value.int .u8 z).toArray
  let h5 := put h4 7 (([0, 1, 56, 2, 57, 49, 28, 3, 61, 58, 42, 50, 38, 29, 17, 4, 62, 47, 59, 36, 45, 43, 51, 22, 53, 39, 33, 30, 24, 18, 12, 5, 63, 55, 48, 27, 60, 41, 37, 16, 46, 35, 44, 21, 52, 32, 23, 11, 54, 26, 40, 15, 34, 20, 31, 10, 25, 14, 19, 9, 13, 8, 7, 6] : List Int).map fun z => Value.int .u8 z).toArray
  { w0 with heap := h5 }
set_option maxRecDepth 1000000 in
theorem laid_met (os : Os) (args : Array Value) : laidMet Tryz.prog Rows.metaGetsRow.laid ((laidWorld os).forCall (fun _ _ => 0) ⟨#[], args, []⟩).memory :=
  (LaidIn.of_run [6, 7, 3, 5, 1, N0 + 1, 0, N0, 4] 8 (by kernel_rfl) (by kernel_rfl) (by kernel_rfl) (by kernel_rfl)).met
section
variable {H : Type} {enc : TypeId × Value → H} {w : World} {base : Nat} {sp : Nat → Bool} {held : Bool}
theorem array6 {α : Type} {cs : Array α} (h : cs.size = 6) : ∃ c0 c1 c2 c3 c4 c5, cs = #[c0, c1, c2, c3, c4, c5] := by
  obtain ⟨l⟩ := cs
  match l, h with
  | [c0, c1, c2, c3, c4, c5], _ => exact ⟨c0, c1, c2, c3, c4, c5, rfl⟩
set_option maxRecDepth 100000 in
theorem open_meta {r : Reach} {b0 : Nat} {v : Value} {d : DataW H} {p : List MemPlace} (hv : Value.okWide Tryz.prog w r b0 26 v) (h : DataW.Trod enc Tryz.prog w base sp held 26 v d p) :
    ∃ a b c e f g : Int, v = .agg #[.int .u64 a, .int .i64 b, .int .i64 c, .int .i64 e, .int .i64 f, .int .i64 g] ∧ d = .agg [.lit (.int .u64 a), .lit (.int .i64 b), .lit (.int .i64 c), .lit (.int .i64 e), .lit (.int .i64 f), .lit (.int .i64 g)] ∧ p = [] ∧
      (Lit.int .u64 a).wf = true ∧ (Lit.int .i64 b).wf = true ∧ (Lit.int .i64 c).wf = true ∧ (Lit.int .i64 e).wf = true ∧ (Lit.int .i64 f).wf = true ∧ (Lit.int .i64 g).wf = true := by
  obtain ⟨cs, rfl, hsz⟩ := okWide_struct Tryz.underlying26 hv
  rw [cellsMeta] at hsz
  obtain ⟨c0, c1, c2, c3, c4, c5, rfl⟩ := array6 hsz
  obtain ⟨fuel, hf⟩ := h
  obtain ⟨xs, n, _, hx, _, hlen, hg⟩ := DataW.trod_struct Tryz.underlying26 hf
  have k2 := cellsI64
  have k3 := cellsInt
  have k22 := cellsU64
  match xs, hlen with
  | [y0, y1, y2, y3, y4, y5], _ =>
    obtain ⟨a, e0, rfl, w0⟩ := DataW.trod_int Tryz.underlying24 (hg 0 _ rfl)
    obtain ⟨b, e1, rfl, w1⟩ := DataW.trod_int Tryz.underlying3 (hg 1 _ rfl)
    obtain ⟨c, e2, rfl, w2⟩ := DataW.trod_int Tryz.underlying2 (hg 2 _ rfl)
    obtain ⟨d, e3, rfl, w3⟩ := DataW.trod_int Tryz.underlying2 (hg 3 _ rfl)
    obtain ⟨e, e4, rfl, w4⟩ := DataW.trod_int Tryz.underlying3 (hg 4 _ rfl)
    obtain ⟨f, e5, rfl, w5⟩ := DataW.trod_int Tryz.underlying3 (hg 5 _ rfl)
    simp [k2, k3, k22, Value.cells] at e0 e1 e2 e3 e4 e5
    subst e0 e1 e2 e3 e4 e5
    simp only [Prod.mk.injEq] at hx
    exact ⟨a, b, c, d, e, f, rfl, by simpa using hx.1, by simpa using hx.2, w0, w1, w2, w3, w4, w5⟩
set_option maxRecDepth 100000 in
theorem open_mark {r : Reach} {b0 : Nat} {v : Value} {d : DataW H} {p : List MemPlace} (hv : Value.okWide Tryz.prog w r b0 32 v) (h : DataW.Trod enc Tryz.prog w base sp held 32 v d p) :
    ∃ x y z : Int, v = .agg #[.int .u64 x, .int .i64 y, .int .u64 z] ∧ d = .agg [.lit (.int .u64 x), .lit (.int .i64 y), .lit (.int .u64 z)] ∧ p = [] ∧
      (Lit.int .u64 x).wf = true ∧ (Lit.int .i64 y).wf = true ∧ (Lit.int .u64 z).wf = true := by
  obtain ⟨c0, c1, c2, y0, y1, y2, m, rfl, rfl, rfl, hy0, hy1, hy2⟩ := open_agg3 Tryz.underlying32 (by kernel_rfl) cellsMark hv h
  obtain ⟨x, e0, rfl, w0⟩ := DataW.trod_int Tryz.underlying24 hy0
  obtain ⟨y, e1, rfl, w1⟩ := DataW.trod_int Tryz.underlying2 hy1
  obtain ⟨z, e2, rfl, w2⟩ := DataW.trod_int Tryz.underlying24 hy2
  simp at e0 e1 e2
  subst e0 e1 e2
  exact ⟨x, y, z, rfl, rfl, rfl, w0, w1, w2⟩
theorem shut_meta {a b c d e f : Int} (w0 : (Lit.int .u64 a).wf = true) (w1 : (Lit.int .i64 b).wf = true) (w2 : (Lit.int .i64 c).wf = true) (w3 : (Lit.int .i64 d).wf = true) (w4 : (Lit.int .i64 e).wf = true) (w5 : (Lit.int .i64 f).wf = true) :
    DataW.Trod enc Tryz.prog w base sp held 26 (.agg #[.int .u64 a, .int .i64 b, .int .i64 c, .int .i64 d, .int .i64 e, .int .i64 f]) (.agg [.lit (.int .u64 a), .lit (.int .i64 b), .lit (.int .i64 c), .lit (.int .i64 d), .lit (.int .i64 e), .lit (.int .i64 f)]) [] := by
  have k2 := cellsI64
  have k3 := cellsInt
  have k22 := cellsU64
  have := trod_struct_mk (enc := enc) (w := w) (base := base) (spare := sp) (held := held) (n := 1) (cs := [.int .u64 a, .int .i64 b, .int .i64 c, .int .i64 d, .int .i64 e, .int .i64 f])
    (xs := [(.lit (.int .u64 a), []), (.lit (.int .i64 b), []), (.lit (.int .i64 c), []), (.lit (.int .i64 d), []), (.lit (.int .i64 e), []), (.lit (.int .i64 f), [])])
    Tryz.underlying26 cellsMeta.symm
    (by simp [k2, k3, k22, trod_int_mk 0 Tryz.underlying24 w0, trod_int_mk 0 Tryz.underlying3 w1, trod_int_mk 0 Tryz.underlying2 w2, trod_int_mk 0 Tryz.underlying2 w3, trod_int_mk 0 Tryz.underlying3 w4, trod_int_mk 0 Tryz.underlying3 w5])
  exact ⟨_, by simpa [Value.cells] using this⟩
theorem shut_mark {x y z : Int} (w0 : (Lit.int .u64 x).wf = true) (w1 : (Lit.int .i64 y).wf = true) (w2 : (Lit.int .u64 z).wf = true) :
    DataW.Trod enc Tryz.prog w base sp held 32 (.agg #[.int .u64 x, .int .i64 y, .int .u64 z]) (.agg [.lit (.int .u64 x), .lit (.int .i64 y), .lit (.int .u64 z)]) [] :=
  shut_agg3 Tryz.underlying32 (by kernel_rfl) cellsMark ⟨1, trod_int_mk 0 Tryz.underlying24 w0⟩ ⟨1, trod_int_mk 0 Tryz.underlying2 w1⟩ ⟨1, trod_int_mk 0 Tryz.underlying24 w2⟩
end
end Go.Proofs.YtbfmjbkhnbpbgaaGreatDoor.H
