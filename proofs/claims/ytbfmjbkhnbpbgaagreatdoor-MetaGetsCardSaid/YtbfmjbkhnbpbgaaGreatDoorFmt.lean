/- Contracts of the library's FormatUint at base 16 and, of numbers below 1000, at base 10. -/
import Derived.Test.YtbfmjbkhnbpbgaaGreatDoorMetaPut
import Derived.Test.YtbfmjbkhnbpbgaaGreatDoorShelf
import Derived.Lib.LazyBuf
import Derived.WalkSmall
import Derived.Lib.AppendIntMem
import Derived.Lib.ItoaMem
import Derived.BigCall
import Derived.ChangeAgain
set_option linter.unusedVariables false
namespace Go.Proofs.YtbfmjbkhnbpbgaaGreatDoor.H
open Go.RowKit Go.Proofs.YtbfmjbkhnbpbgaaGreatDoorW.PrintWords Go.Proofs.YtbfmjbkhnbpbgaaGreatDoorW.PrintLast Go.Proofs.YtbfmjbkhnbpbgaaGreatDoorW.PrintMore
open Go.Proofs.YtbfmjbkhnbpbgaaGreatDoor.PF Go.Proofs.YtbfmjbkhnbpbgaaGreatDoor.Pl
/-- What the package-level variables hold that the names' functions read. -/
structure Gl (w : World) : Prop where
  db : w.cell? ⟨7, 15, none⟩ = some (.int .u8 4)
  p10 : Lib.TabIs Tryz.prog w "internal/strconv.uint64pow10" .u64 Lib.pow10Tab
  sh : w.ShapedOpen Tryz.prog
theorem gDb : Tryz.prog.globalNamed "math/bits.deBruijn64tab" = some 7 := by kernel_rfl
theorem gP10 : Tryz.prog.globalNamed "internal/strconv.uint64pow10" = some 3 := by kernel_rfl
theorem Gl.below {w w' : World} (h : Gl w) (hb : Below w.heap.size w w') : Gl w' := by
  have hlt := World.block_lt_of_cell? w _ h.db
  exact ⟨pw_cell_below hb h.db, var?_below hb gP10 (Nat.lt_trans (by decide) hlt) h.p10, h.sh.keptBut (hb.frame (fun _ => False)) (fun _ h => h.elim)⟩
/-- The digit of a number below 16. -/
def hexd (d : Nat) : UInt8 := if d < 10 then UInt8.ofNat (48 + d) else UInt8.ofNat (87 + d)
/-- So many digits of a number, to base 16. -/
def lowD : Nat → Nat → List UInt8
  | 0, _ => []
  | k + 1, u => hexd (u / 16 ^ k % 16) :: lowD k u
theorem lowD_length : ∀ k u, (lowD k u).length = k
  | 0, _ => rfl
  | k + 1, u => by simp [lowD, lowD_length k]
set_option maxHeartbeats 400000 in
theorem isPow (w : World) : Calls Tryz.prog 96 #[.int .i64 16] w fun e w' => e = .returned (.bool true) ∧ w' = w := by
  have hb : (Go.bits .and .i64 16 15 == 0) = true := by decide
  have hb2 : Go.bits .and .i64 16 15 = 0 := by decide
  go_enter Tryz.func96, Tryz.ntmps96
  go_wp2
  go_ret
  exact ⟨rfl, rfl⟩
set_option maxHeartbeats 400000 in
theorem tz64 (w : World) (hg : Gl w) : Calls Tryz.prog 104 #[.int .u64 16] w fun e w' => e = .returned (.int .i64 4) ∧ w' = w := by
  have hd := hg.db
  have hx : IntKind.u64.wrap (Go.bits .and .u64 16 (IntKind.u64.wrap (-16)) * 285870213051353865) / 288230376151711744 = 15 := by decide +kernel
  go_enter Tryz.func104, Tryz.ntmps104
  go_wp2
  go_ret
  exact ⟨rfl, rfl⟩
set_option maxHeartbeats 400000 in
theorem tz (w : World) (hg : Gl w) : Calls Tryz.prog 97 #[.int .u64 16] w fun e w' => e = .returned (.int .i64 4) ∧ w' = w := by
  go_enter Tryz.func97, Tryz.ntmps97
  go_wp2_with (go_at_call 104; go_must (refine (tz64 _ hg).mono ?_); rintro e w' ⟨rfl, rfl⟩)
  go_ret
  exact ⟨rfl, rfl⟩
theorem hex_at (r : Nat) (hr : r < 16) : ∀ h2, ((⟨#[48, 49, 50, 51, 52, 53, 54, 55, 56, 57, 97, 98, 99, 100, 101, 102, 103, 104, 105, 106, 107, 108, 109, 110, 111, 112, 113, 114, 115, 116, 117, 118, 119, 120, 121, 122]⟩ : ByteArray)[r]'h2) = hexd r := by
  obtain rfl | rfl | rfl | rfl | rfl | rfl | rfl | rfl | rfl | rfl | rfl | rfl | rfl | rfl | rfl | rfl : r = 0 ∨ r = 1 ∨ r = 2 ∨ r = 3 ∨ r = 4 ∨ r = 5 ∨ r = 6 ∨ r = 7 ∨ r = 8 ∨ r = 9 ∨ r = 10 ∨ r = 11 ∨ r = 12 ∨ r = 13 ∨ r = 14 ∨ r = 15 := by omega
  all_goals (intro h2; rfl)
/-- The buffer's cells: the last ones are digits. -/
def bufA (k u : Nat) : Array Value := ((List.replicate (65 - k) (Value.int .u8 0)) ++ (lowD k u).map fun b => Value.int .u8 (b.toNat : Int)).toArray
theorem bufA_at (k u i : Nat) (hi : i < 65) (hk : k ≤ 65) : ∃ v, (bufA k u)[i]? = some v := ⟨_, Array.getElem?_eq_getElem (by simp [bufA, lowD_length]; omega)⟩
theorem buf0 (u : Nat) : Tryz.zeroCells137 = bufA 0 u := by kernel_rfl
theorem buf_set (k u q : Nat) (hq : q + k = 64) : (bufA k u).setIfInBounds q (Value.int .u8 ((hexd (u / 16 ^ k % 16)).toNat : Int)) = bufA (k + 1) u := by
  unfold bufA
  rw [List.setIfInBounds_toArray, show 65 - k = (65 - (k + 1)) + 1 by omega, List.replicate_succ', List.append_assoc, List.set_append_right _ _ (by simp; omega)]
  have e : q - (List.replicate (65 - (k + 1)) (Value.int .u8 0)).length = 0 := by simp; omega
  rw [e]
  rfl
theorem buf_slice (g q : Nat) (hq : q < 65) : ∀ W : World, (Instr.sliceAt 137 (.pointer (some ⟨g, 0, none⟩)) (some (.int .i64 (q : Int))) none none).run Tryz.prog W = .ok (.slice (some ⟨g, q, none⟩) (65 - q) (65 - q)) W := by
  intro W
  have ha : Tryz.prog.arrayLen 137 = 65 := by kernel_rfl
  have he : Tryz.prog.elem 137 = 5 := by kernel_rfl
  have hs : (sizeOf 5).run Tryz.prog W = .ok 1 W := by kernel_rfl
  rw [run_sliceAt_array_l W 137 ⟨g, 0, none⟩ (by rw [ha, he]; exact Tryz.underlying137) .i64 (q : Int) (by omega) (by rw [ha]; omega), he, hs, ha]
  simp only [Result.andThen, slicedAt, Int.toNat_natCast]
  rw [if_neg (by omega), Nat.mul_one, add_plain]
theorem buf_string (k u g q : Nat) (hq : q + k = 65) (W : World) (h : W.heap[g]? = some (.cells (bufA k u) 137 (0, 0))) :
    (convert 22 9 (.slice (some ⟨g, q, none⟩) (65 - q) (65 - q))).run Tryz.prog W = .ok (.string ⟨(lowD k u).toArray⟩) W := by
  have := run_convert_bytes_arg W 22 5 Tryz.underlying22 Tryz.underlying5 g q (65 - q) (65 - q) ((lowD k u).map fun b => (b.toNat : Int)) (by rw [List.length_map, lowD_length]; omega) (fun i hi => by
    rw [blk_cell h]
    unfold bufA
    rw [List.getElem?_toArray, List.getElem?_append_right (by simp; omega)]
    have hl : i < (lowD k u).length := by rw [lowD_length]; omega
    have e : q + i - (List.replicate (65 - k) (Value.int .u8 0)).length = i := by simp; omega
    rw [e]
    simp [List.getD_eq_getElem?_getD, List.getElem?_eq_getElem hl]) 9 Tryz.underlying9
  rw [this, Lib.Lz.strOfNums_map]
set_option maxHeartbeats 400000 in
set_option maxRecDepth 100000 in
theorem fmtBits (u : Nat) (hu : u < 18446744073709551616) (w : World) (hg : Gl w) :
    Calls Tryz.prog 80 #[.slice none 0 0, .int .u64 u, .int .i64 16, .bool false, .bool false] w fun e w' => (∃ k, k < 16 ∧ u < 16 ^ (k + 1) ∧ e = .returned (.tuple #[.slice none 0 0, .string ⟨(lowD (k + 1) u).toArray⟩])) ∧ Below w.heap.size w w' := by
  have HB := Aside0.mk (Below.refl w.heap.size w)
  go_enter Tryz.func80, Tryz.ntmps80
  go_wp2_with (first | ((with_reducible refine gate_dst (N := 12) rfl ?_); refine box_event ?hg (N := 12) ?hd (cs := bufA 0 u) (t := 137) ?hr ?_; (case hd => rfl); (case hg => rfl); (case hr => rw [← buf0]; first | (go_simp; done) | (go_simp; rfl)); intro g hgg w1 hbox hb; have BK := Aside0.mk hbox; have HB1 := Aside0.mk (below_step HB.out hb); have HG := Aside0.mk (show w.heap.size ≤ g by omega); clear hgg hbox hb HB) | (go_at_call 96; refine (isPow _).mono ?_; rintro e w' ⟨rfl, rfl⟩) | (go_at_call 97; go_must (refine (tz _ (hg.below HB1.out)).mono ?_); rintro e w' ⟨rfl, rfl⟩))
  go_loopw [1, 13] (fun v1 v13 wr => ∃ k q : Nat, k ≤ 15 ∧ q + k = 64 ∧ v1 = .int .u64 ((u / 16 ^ k : Nat) : Int) ∧ v13 = .int .i64 ((q : Int) + 1) ∧ Aside0 (wr.heap[g]? = some (.cells (bufA k u) 137 (0, 0))) ∧ Aside0 (Below w.heap.size w wr)) (fun v1 _ _ => (intOf v1).toNat)
  case atStart => exact ⟨0, 64, by omega, rfl, by simp, rfl, BK, HB1⟩
  case round =>
    obtain ⟨k, q, hk, hq, rfl, rfl, BKr, HBr⟩ := hrel
    clear BK HB1
    obtain ⟨x, ex⟩ : ∃ x, u / 16 ^ k = x := ⟨_, rfl⟩
    have hxb : x < 18446744073709551616 := by rw [← ex]; exact Nat.lt_of_le_of_lt (Nat.div_le_self _ _) hu
    rw [ex]
    have EX := Aside0.mk ex
    clear ex
    have HU := Aside0.mk (And.intro hu hxb)
    clear hu hxb
    have hfz : wr.frozen? ⟨g, q, none⟩ = false := blk_frozen BKr.out q
    obtain ⟨vc, hvc⟩ := bufA_at k u q (by omega) (by omega)
    have hcz : wr.cell? ⟨g, q, none⟩ = some vc := (blk_cell BKr.out q).trans hvc
    clear hvc
    by_cases hge : 16 ≤ x
    · have hb : Go.bits .and .u64 (x : Int) 15 = ((x % 16 : Nat) : Int) := by
        rw [show (15 : Int) = ((15 : Nat) : Int) from rfl, u64_and_nat x 15 HU.out.2 (by decide), nat_mask4]
      have hr : x % 16 < 16 := Nat.mod_lt _ (by decide)
      have hbs := buf_set k u q hq
      have hkk : k + 1 ≤ 15 := by
        rcases Nat.lt_or_ge k 15 with h | h
        · omega
        · have : k = 15 := by omega
          subst this
          have := HU.out.1
          have h3 := EX.out
          omega
      rw [EX.out] at hbs
      obtain ⟨r, er⟩ : ∃ r, x % 16 = r := ⟨_, rfl⟩
      rw [er] at hb hr hbs
      have HBS := Aside0.mk hbs
      have HX := Aside0.mk (show (x : Int) / 16 = ((u / 16 ^ (k + 1) : Nat) : Int) by
        rw [Nat.pow_succ, ← Nat.div_div_eq_div_mul, EX.out]; rfl)
      clear hbs er
      go_wp2
      go_roundw
      case rel => exact ⟨k + 1, q - 1, hkk, by omega, by rw [HX.out], by rw [show ((q - 1 : Nat) : Int) + 1 = (q : Int) by omega], ⟨by rw [← HBS.out, hex_at r hr]; exact blk_set BKr.out q _⟩, ⟨HBr.out.setCell HG.out _⟩⟩
      case measure => simp [intOf]; omega
    · have hr : x < 16 := by omega
      have HLT := Aside0.mk (show u < 16 ^ (k + 1) by
        rw [Nat.pow_succ]
        have h3 := EX.out
        have h4 : 0 < 16 ^ k := Nat.pow_pos (by decide)
        have := (Nat.div_lt_iff_lt_mul h4).1 (show u / 16 ^ k < 16 by omega)
        rw [Nat.mul_comm]; exact this)
      have hbs := buf_set k u q hq
      rw [EX.out, Nat.mod_eq_of_lt hr] at hbs
      have HBS := Aside0.mk hbs
      clear hbs
      go_upto_region 16 with (fail)
      go_cut [13] (fun v13 wc => v13 = .int .i64 (q : Int) ∧ Aside0 (wc.heap[g]? = some (.cells (bufA (k + 1) u) 137 (0, 0))) ∧ Aside0 (Below w.heap.size w wc))
      case first =>
        go_wp2
        go_meet
        case rel => exact ⟨rfl, ⟨by rw [← HBS.out, hex_at x (by omega)]; exact blk_set BKr.out q _⟩, ⟨HBr.out.setCell HG.out _⟩⟩
      case rest =>
        obtain ⟨rfl, BKc, HBc⟩ := hcut
        have hsl := buf_slice g q (by omega)
        have hst := buf_string (k + 1) u g q (by omega) wc BKc.out
        go_wp2
        go_ret2
        exact ⟨⟨k, by omega, HLT.out, rfl⟩, HBc.out⟩
set_option maxHeartbeats 400000 in
set_option maxRecDepth 100000 in
theorem fmtHex0 (u : Nat) (hu : u < 18446744073709551616) (w : World) (hg : Gl w) :
    Calls Tryz.prog 62 #[.int .u64 u, .int .i64 16] w fun e w' => (∃ k, k < 16 ∧ u < 16 ^ (k + 1) ∧ e = .returned (.string ⟨(lowD (k + 1) u).toArray⟩)) ∧ Below w.heap.size w w' := by
  go_enter Tryz.func62, Tryz.ntmps62
  go_wp2_with fail
  refine (fmtBits u hu _ hg).mono ?_
  rintro e w' ⟨⟨k, hk, hlt, rfl⟩, hb⟩
  have H := Aside0.mk (And.intro hlt hb)
  clear hlt hb
  go_wp2
  go_ret
  exact ⟨⟨k, hk, H.out.1, rfl⟩, H.out.2⟩
set_option maxHeartbeats 400000 in
theorem fmtHex (u : Nat) (hu : u < 18446744073709551616) (w : World) (hg : Gl w) :
    Calls Tryz.prog 45 #[.int .u64 u, .int .i64 16] w fun e w' => (∃ k, k < 16 ∧ u < 16 ^ (k + 1) ∧ e = .returned (.string ⟨(lowD (k + 1) u).toArray⟩)) ∧ Below w.heap.size w w' := by
  go_enter Tryz.func45, Tryz.ntmps45
  go_wp2_with fail
  refine (fmtHex0 u hu _ hg).mono ?_
  rintro e w' ⟨⟨k, hk, hlt, rfl⟩, hb⟩
  have H := Aside0.mk (And.intro hlt hb)
  clear hlt hb
  go_wp2
  go_ret
  exact ⟨⟨k, hk, H.out.1, rfl⟩, H.out.2⟩
/-! ### base 10 -/
theorem holds24 (w : World) (nd : Nat) (hs : nd ≤ 24) : Go.Sort.Holds (fun (b : UInt8) => Value.int .u8 (b.toNat : Int)) (w.alloc (.cells Lib.zeros24 119)) w.heap.size 0 (Array.replicate nd (0 : UInt8)) := fun j hj => by
  have hj' : j < nd := by simpa using hj
  refine ⟨?_, World.frozen?_alloc_new _ _ _ _⟩
  rw [World.cell?_alloc_new, Lib.zeros24_at _ (by omega), getElem!_pos _ j hj]
  simp
set_option maxHeartbeats 1600000 in
set_option maxRecDepth 100000 in
theorem fmtDec0 (u : Nat) (hu64 : u < 18446744073709551616) (w : World) (hg : Gl w) :
    Calls Tryz.prog 62 #[.int .u64 u, .int .i64 10] w fun e w' => e = .returned (.string ⟨(Lib.decDigits u).toArray⟩) ∧ Below w.heap.size w w' := by
  by_cases hs : u < 100
  · go_enter Tryz.func62, Tryz.ntmps62
    go_wp2_with (go_at_call 77; go_must (refine (Tryz.internal_strconv_small u hs _).mono ?_); rintro e w' ⟨rfl, rfl⟩)
    go_ret
    exact ⟨rfl, Below.refl _ _⟩
  · have hu1 : 1 ≤ u := by omega
    have hnd20 : Lib.nDigits u ≤ 20 := by have := Lib.numDigits_eq u hu1 hu64; split at this <;> omega
    have hal : Tryz.prog.arrayLen 119 = 24 := by kernel_rfl
    have hel : Tryz.prog.elem 119 = 5 := by kernel_rfl
    have hsl : ∀ W, (Instr.sliceAt 119 (.pointer (some ⟨w.heap.size, 0, none⟩)) none (some (.int .i64 (Lib.nDigits u : Int))) none).run Tryz.prog W = .ok (.slice (some ⟨w.heap.size, 0, none⟩) (Lib.nDigits u) 24) W := fun W => by
      rw [run_sliceAt_array_h W 119 ⟨w.heap.size, 0, none⟩ (by rw [hal, hel]; exact Tryz.underlying119) .i64 (Lib.nDigits u : Int) (by omega) (by rw [hal]; omega), hel, hal]
      have hs : (sizeOf 5).run Tryz.prog W = .ok 1 W := by kernel_rfl
      rw [hs]
      simp [Result.andThen, slicedAt, Lib.add_plain]
    have hH0 := holds24 w (Lib.nDigits u) (by omega)
    have hfmt := Tryz.internal_strconv_formatBase10 w.heap.size 0 24 u (Array.replicate (Lib.nDigits u) 0) (w.alloc (.cells Lib.zeros24 119)) hH0 (by rw [Array.size_replicate]; exact Lib.lt_pow_nDigits u) hu64 (by rw [Array.size_replicate]; omega)
    rw [Array.size_replicate] at hfmt
    have HH0 := Lib.hid hH0
    have HT := Lib.hid (Lib.tabIs_alloc hg.p10 (.cells Lib.zeros24 119))
    clear hH0 hal hel
    go_enter Tryz.func62, Tryz.ntmps62
    go_wp2_with (go_at_call 78; go_must (refine (Tryz.internal_strconv_numDigits u hu1 hu64 _ HT.out).mono ?_); rintro e w' ⟨rfl, rfl⟩)
    refine hfmt.mono ?_
    rintro e w' ⟨rfl, k, v', dk, rfl, hF⟩
    have hcv : (convert 22 9 (.slice (some ⟨w.heap.size, 0, none⟩) (Lib.nDigits u) 24)).run Tryz.prog ((Go.Sort.putRow (fun (b : UInt8) => Value.int .u8 (b.toNat : Int)) (w.alloc (.cells Lib.zeros24 119)) w.heap.size 0 dk).drewN k) = .ok (.string ⟨(Lib.decDigits u).toArray⟩) ((Go.Sort.putRow (fun (b : UInt8) => Value.int .u8 (b.toNat : Int)) (w.alloc (.cells Lib.zeros24 119)) w.heap.size 0 dk).drewN k) := by
      have h := run_convert_bytes_back (P := Tryz.prog) ((Go.Sort.putRow (fun (b : UInt8) => Value.int .u8 (b.toNat : Int)) (w.alloc (.cells Lib.zeros24 119)) w.heap.size 0 dk).drewN k) 22 9 5 ⟨w.heap.size, 0, none⟩ 24 (Lib.decDigits u) Tryz.underlying22 Tryz.underlying5 Tryz.underlying9 (fun j hj => by
        rw [Lib.row_is_numeral hF j hj, Lib.add_plain, World.cell?_drewN]
        exact Go.Sort.cell?_putRow (fun (b : UInt8) => Value.int .u8 (b.toNat : Int)) _ w.heap.size 0 _ dk HH0.out (by rw [hF.size, Array.size_replicate]) j (by rw [hF.size]; rw [Lib.decDigits_length] at hj; exact hj))
      rw [Lib.decDigits_length] at h
      exact h
    go_wp2
    go_ret
    obtain ⟨os, eo⟩ := Lib.fin_at w (.cells Lib.zeros24 119) dk k 0
    exact ⟨rfl, by rw [eo]; exact Lib.below_grow _ _ (Nat.le_refl _) k os⟩
set_option maxHeartbeats 400000 in
theorem fmtDec (u : Nat) (hu : u < 18446744073709551616) (w : World) (hg : Gl w) :
    Calls Tryz.prog 45 #[.int .u64 u, .int .i64 10] w fun e w' => e = .returned (.string ⟨(Lib.decDigits u).toArray⟩) ∧ Below w.heap.size w w' := by
  go_enter Tryz.func45, Tryz.ntmps45
  go_wp2_with fail
  refine (fmtDec0 u hu _ hg).mono ?_
  rintro e w' ⟨rfl, hb⟩
  have H := Aside0.mk hb
  clear hb
  go_wp2
  go_ret
  exact ⟨rfl, H.out⟩

end Go.Proofs.YtbfmjbkhnbpbgaaGreatDoor.H
