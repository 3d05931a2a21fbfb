/- Contracts of the reader of words: fail, take, Word, Bad, Left, Read. -/
import Derived.Test.YtbfmjbkhnbpbgaaGreatDoorDiff
set_option linter.unusedVariables false
set_option linter.unusedSimpArgs false
namespace Go.Proofs.YtbfmjbkhnbpbgaaGreatDoor.H
open Go.RowKit Go.Proofs.YtbfmjbkhnbpbgaaGreatDoorW.PrintWords Go.Proofs.YtbfmjbkhnbpbgaaGreatDoorW.PrintLast Go.Proofs.YtbfmjbkhnbpbgaaGreatDoorW.PrintMore
open Go.Proofs.YtbfmjbkhnbpbgaaGreatDoor.PF Go.Proofs.YtbfmjbkhnbpbgaaGreatDoor.Pl
/-- A reader at block g: its row, where it is, where something is amiss. -/
def Rd (W : World) (g : Nat) (A : Option Addr) (c n : Nat) (i : Int) (b : Int) : Prop := W.heap[g]? = some (.cells #[.slice A n c, .int .i64 i, .int .i64 b] 76 (0, 0))
/-- What a call on a reader leaves as it was. -/
def Kept1 (B : Nat) (w w' : World) (g : Nat) : Prop := Below B w w' ∧ KeepBut w w' g none
theorem Kept1.refl (B : Nat) (w : World) (g : Nat) : Kept1 B w w g := ⟨Below.refl _ _, KeepBut.refl _ _ _⟩
theorem Kept1.trans {B : Nat} {w w1 w2 : World} {g : Nat} (h : Kept1 B w w1 g) (k : Kept1 B w1 w2 g) : Kept1 B w w2 g := ⟨h.1.trans k.1, h.2.trans k.2 (.inl rfl)⟩
theorem Kept1.set_ {B : Nat} {w w' : World} {g : Nat} (h : Kept1 B w w' g) (hg : B ≤ g) (j : Nat) (u : Value) : Kept1 B w (w'.setCell ⟨g, j, none⟩ u) g := ⟨h.1.setCell hg _, h.2.set_ j u⟩
theorem Kept1.drewN {B : Nat} {w w' : World} {g : Nat} (h : Kept1 B w w' g) (m : Nat) : Kept1 B w (w'.drewN m) g := ⟨pw_below_drewN h.1 m, keep_drewN h.2 m⟩
theorem Kept1.drew {B : Nat} {w w' : World} {g : Nat} (h : Kept1 B w w' g) : Kept1 B w w'.drew g := ⟨h.1.drew, keep_drew h.2⟩
/-- Where something is amiss, behind a note of it. -/
def badAt (b i : Int) : Int := if b = -1 then i else b
set_option maxHeartbeats 400000 in
set_option maxRecDepth 100000 in
theorem rd_fail (B : Nat) (w : World) (g : Nat) (A : Option Addr) (c n : Nat) (i b a1 : Int) (hr : Rd w g A c n i b) (hg : B ≤ g) :
    Calls Tryz.prog 33 #[.pointer (some ⟨g, 0, none⟩), .int .i64 a1] w fun e w' => e = .returned (.tuple #[]) ∧ Rd w' g A c n i (badAt b a1) ∧ Kept1 B w w' g := by
  have HR := Aside0.mk hr
  have z2 : w.cell? ⟨g, 2, none⟩ = some (.int .i64 b) := (blk_cell hr 2).trans rfl
  have f2 := blk_frozen hr 2
  clear hr
  by_cases hb : b = -1
  · subst hb
    go_enter Tryz.func33, Tryz.ntmps33
    go_wp2
    first | go_end0 | ((try simp only [Exit.inBlock, Exit.then]); refine bodyPost_ret (results_none rfl _ _ _) rfl ?_)
    exact ⟨rfl, by unfold badAt; rw [if_pos rfl]; exact blk_set HR.out 2 (.int .i64 a1), (Kept1.refl B w g).set_ hg 2 _⟩
  · have e1 : (b == -1) = false := beq_eq_false_iff_ne.mpr hb
    go_enter Tryz.func33, Tryz.ntmps33
    go_wp2
    first | go_end0 | ((try simp only [Exit.inBlock, Exit.then]); refine bodyPost_ret (results_none rfl _ _ _) rfl ?_)
    exact ⟨rfl, by unfold badAt; rw [if_neg hb]; exact HR.out, Kept1.refl B w g⟩
set_option maxHeartbeats 400000 in
set_option maxRecDepth 100000 in
theorem rd_Bad (B : Nat) (w : World) (g : Nat) (A : Option Addr) (c n : Nat) (i b : Int) (hr : Rd w g A c n i b) :
    Calls Tryz.prog 30 #[.pointer (some ⟨g, 0, none⟩)] w fun e w' => e = .returned (.int .i64 b) ∧ w' = w := by
  have z2 : w.cell? ⟨g, 2, none⟩ = some (.int .i64 b) := (blk_cell hr 2).trans rfl
  clear hr
  go_enter Tryz.func30, Tryz.ntmps30
  go_wp2
  go_ret
  exact ⟨rfl, rfl⟩
set_option maxHeartbeats 400000 in
set_option maxRecDepth 100000 in
theorem rd_Left (w : World) (g : Nat) (A : Option Addr) (c n : Nat) (i b : Int) (hr : Rd w g A c n i b) :
    Calls Tryz.prog 31 #[.pointer (some ⟨g, 0, none⟩)] w fun e w' => e = .returned (.int .i64 (wrap64 ((n : Int) - i))) ∧ Below w.heap.size w w' := by
  have z0 : w.cell? ⟨g, 0, none⟩ = some (.slice A n c) := (blk_cell hr 0).trans rfl
  have z1 : w.cell? ⟨g, 1, none⟩ = some (.int .i64 i) := (blk_cell hr 1).trans rfl
  clear hr
  go_enter Tryz.func31, Tryz.ntmps31
  go_wp2
  repeat (go_quiet (fail); try go_wp2)
  go_ret
  exact ⟨rfl, by repeat (first | exact Below.refl _ _ | apply pw_below_drewN | apply Below.drew)⟩
set_option maxHeartbeats 400000 in
set_option maxRecDepth 100000 in
theorem rd_Read (B : Nat) (w : World) (A : Option Addr) (c n : Nat) :
    Calls Tryz.prog 29 #[.slice A n c] w fun e w' => ∃ g, e = .returned (.pointer (some ⟨g, 0, none⟩)) ∧ Rd w' g A c n 0 (-1) ∧ w.heap.size ≤ g ∧ Below w.heap.size w w' := by
  have hu := Tryz.underlying76
  go_enter Tryz.func29, Tryz.ntmps29
  go_wp2
  all_goals go_ret
  all_goals exact ⟨_, rfl, by first | exact heap_alloc_new _ _ | trace_state, by simp, by first | exact below_alloc (Below.refl _ _) _ | trace_state⟩
theorem infoU8 : ∃ i, Tryz.prog.info? 5 = some i ∧ i.size = 1 := by
  obtain ⟨i, h1, h2⟩ := Option.map_eq_some_iff.1 info5
  exact ⟨i, h1, congrArg (·.2.1) h2⟩
/-- What is taken: k bytes from i on. -/
def tookV (A : Option Addr) (c i k : Nat) : Value := .slice (if c = i then A else A.map (·.add i)) k (c - i)
theorem tookV_C {w : World} {A : Option Addr} {c i k : Nat} {l : List Int} (h : Kd.C (Kd.int .u8) w A l.length l) (hc : l.length ≤ c) (hk : i + k ≤ l.length) :
    Kd.C (Kd.int .u8) w (if c = i then A else A.map (·.add i)) ((l.drop i).take k).length ((l.drop i).take k) := by
  have := Kd.C_mid (lo := i) (hi := i + k) h (by omega) hk hc
  rw [show i * (Kd.int .u8).sz = i from Nat.mul_one i] at this
  rw [List.drop_take, show i + k - i = k by omega] at this
  exact this
set_option maxHeartbeats 400000 in
set_option maxRecDepth 100000 in
theorem rd_take_ok (B : Nat) (w : World) (g : Nat) (A : Option Addr) (c n i k : Nat) (hr : Rd w g A c n i (-1)) (hg : B ≤ g) (hk : i + k ≤ n) (hc : n ≤ c) (hn : n ≤ 140737488355328) :
    Calls Tryz.prog 34 #[.pointer (some ⟨g, 0, none⟩), .int .i64 k] w fun e w' => e = .returned (tookV A c i k) ∧ Rd w' g A c n (i + k : Nat) (-1) ∧ Kept1 B w w' g := by
  have HR := Aside0.mk hr
  have z0 : w.cell? ⟨g, 0, none⟩ = some (.slice A n c) := (blk_cell hr 0).trans rfl
  have z1 : w.cell? ⟨g, 1, none⟩ = some (.int .i64 i) := (blk_cell hr 1).trans rfl
  have z2 : w.cell? ⟨g, 2, none⟩ = some (.int .i64 (-1)) := (blk_cell hr 2).trans rfl
  have f1 := blk_frozen hr 1
  obtain ⟨i0, hi0, hs0⟩ := infoU8
  have hcut := cut_mid 22 5 .i64 .i64 Tryz.underlying22 hi0 1 hs0 A n c i (i + k : Nat) (by omega) (by omega) (by omega) hc
  clear hi0 hs0
  clear hr
  go_enter Tryz.func34, Tryz.ntmps34
  go_wp2
  repeat (go_quiet (fail); try go_wp2)
  all_goals go_ret
  · subst_vars
    refine ⟨congrArg Ending.returned (show Value.slice A k 0 = _ from ?_), ?_, ?_⟩
    · unfold tookV; rw [if_pos rfl, Nat.sub_self]
    · exact blk_set (w := w) HR.out 1 (.int .i64 _)
    · exact (((Kept1.refl B w g).drewN _).set_ hg 1 _).drewN _
  · refine ⟨congrArg Ending.returned (show Value.slice (A.map fun x => x.add i) k (c - i) = _ from ?_), ?_, ?_⟩
    · unfold tookV; rw [if_neg (by assumption)]
    · exact blk_set (w := w) HR.out 1 (.int .i64 _)
    · exact (((Kept1.refl B w g).drewN _).set_ hg 1 _).drewN _
set_option maxHeartbeats 400000 in
set_option maxRecDepth 100000 in
theorem rd_take_no (B : Nat) (w : World) (g : Nat) (A : Option Addr) (c n i k : Nat) (b : Int) (hr : Rd w g A c n i b) (hg : B ≤ g) (hk : b ≠ -1 ∨ n < i + k) (hi : i ≤ n) (hc : n ≤ c) (hn : n ≤ 140737488355328) (hk8 : k ≤ 8) :
    Calls Tryz.prog 34 #[.pointer (some ⟨g, 0, none⟩), .int .i64 k] w fun e w' => e = .returned (.slice none 0 0) ∧ Rd w' g A c n i (badAt b i) ∧ Kept1 B w w' g := by
  have HR := Aside0.mk hr
  have z0 : w.cell? ⟨g, 0, none⟩ = some (.slice A n c) := (blk_cell hr 0).trans rfl
  have z1 : w.cell? ⟨g, 1, none⟩ = some (.int .i64 i) := (blk_cell hr 1).trans rfl
  have z2 : w.cell? ⟨g, 2, none⟩ = some (.int .i64 b) := (blk_cell hr 2).trans rfl
  clear hr
  by_cases hb : b = -1
  · subst hb
    have hk' : n < i + k := by rcases hk with h | h; exact absurd rfl h; exact h
    clear hk
    go_enter Tryz.func34, Tryz.ntmps34
    go_wp2
    repeat (go_quiet (fail); try go_wp2_with fail)
    refine Calls.mono (rd_fail B _ g A c n i (-1) i ?hr hg) ?k
    case hr => exact HR.out
    rintro e w' ⟨rfl, hr', hk'⟩
    go_wp2
    go_ret
    exact ⟨rfl, hr', ((Kept1.refl B w g).drewN _).trans hk'⟩
  · have e1 : (b == -1) = false := beq_eq_false_iff_ne.mpr hb
    have e2 : (b != -1) = true := bne_iff_ne.mpr hb
    clear hk
    go_enter Tryz.func34, Tryz.ntmps34
    go_wp2
    repeat (go_quiet (fail); try go_wp2_with fail)
    refine Calls.mono (rd_fail B _ g A c n i b i ?hr2 hg) ?k2
    case hr2 => exact HR.out
    rintro e w' ⟨rfl, hr', hk'⟩
    go_wp2
    go_ret
    exact ⟨rfl, hr', ((Kept1.refl B w g).drewN _).trans hk'⟩
end Go.Proofs.YtbfmjbkhnbpbgaaGreatDoor.H
