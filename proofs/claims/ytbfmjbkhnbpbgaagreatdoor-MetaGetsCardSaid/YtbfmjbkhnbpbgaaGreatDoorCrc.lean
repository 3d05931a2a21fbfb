/- The contract of crc.On (at sum 0): it returns the sum of the bytes. -/
import Derived.Test.YtbfmjbkhnbpbgaaGreatDoorPFx1
import Derived.Test.YtbfmjbkhnbpbgaaGreatDoorPFx2
import Derived.Deep.DeepMust
import Derived.WalkSpells
import Derived.Test.YtbfmjbkhnbpbgaaGreatDoorPl
set_option linter.unusedVariables false
namespace Go.Proofs.YtbfmjbkhnbpbgaaGreatDoor.H
open Go.RowKit Go.Proofs.YtbfmjbkhnbpbgaaGreatDoorW.PrintWords Go.Proofs.YtbfmjbkhnbpbgaaGreatDoorW.PrintLast Go.Proofs.YtbfmjbkhnbpbgaaGreatDoorW.PrintMore
open Go.Proofs.YtbfmjbkhnbpbgaaGreatDoor.PF Go.Proofs.YtbfmjbkhnbpbgaaGreatDoor.Pl
theorem wrap_small {i : Int} (h0 : 0 ≤ i) (h : i < 9223372036854775807) : wrap64 (i + 1) = i + 1 := by unfold wrap64; omega
theorem step_l0 : ∀ (n k : Nat) (x : Nat) (i : Int), x < 4294967296 → 0 ≤ i → i + n = 8 → n < k → crc_step.l0 k (x : Int) i = some ((bitsN n x : Nat) : Int)
  | 0, k, x, i, hx, h0, hi, hk => by
    obtain ⟨k, rfl⟩ : ∃ m, k = m + 1 := ⟨k - 1, by omega⟩
    unfold crc_step.l0; rw [if_neg (by omega)]; rfl
  | n + 1, k, x, i, hx, h0, hi, hk => by
    obtain ⟨k, rfl⟩ : ∃ m, k = m + 1 := ⟨k - 1, by omega⟩
    unfold crc_step.l0; rw [if_pos (by omega), wrap_small h0 (by omega)]
    have h1 : Go.bits .and .u32 (x : Int) 1 = ((x % 2 : Nat) : Int) := by
      rw [show (1 : Int) = ((1 : Nat) : Int) from rfl, u32_and_nat x 1 hx (by decide), nat_mask1]
    have h2 : (x : Int) / 2 = ((x / 2 : Nat) : Int) := by omega
    rw [h1]
    show _ = some ((bitsN n (bit1 x) : Nat) : Int)
    by_cases hb : x % 2 = 1
    · rw [if_pos (by omega), h2, show (3988292384 : Int) = ((3988292384 : Nat) : Int) from rfl, u32_xor_nat (x / 2) 3988292384 (by omega) (by decide)]
      have e : bit1 x = (x / 2) ^^^ 3988292384 := by unfold bit1; rw [if_pos hb]
      rw [e]
      exact step_l0 n k _ (i + 1) (by rw [← e]; exact bit1_lt hx) (by omega) (by omega) (by omega)
    · rw [if_neg (by omega), h2]
      have e : bit1 x = x / 2 := by unfold bit1; rw [if_neg hb]
      rw [e]
      exact step_l0 n k _ (i + 1) (by omega) (by omega) (by omega) (by omega)
theorem step_f (x : Nat) (hx : x < 4294967296) : crc_step.f 9 (x : Int) = some ((bit8 x : Nat) : Int) := step_l0 8 9 x 0 hx (by omega) (by omega) (by omega)
def tabN (k : Nat) : Array Value := ((List.range 256).map fun i => if i < k then Value.int .u32 ((bit8 i : Nat) : Int) else Value.int .u32 0).toArray
theorem tab0 : Tryz.zeroCells133 = tabN 0 := by kernel_rfl
theorem tab_set (k : Nat) (hk : k < 256) : (tabN k).setIfInBounds k (Value.int .u32 ((bit8 k : Nat) : Int)) = tabN (k + 1) := by
  apply Array.ext
  · simp [tabN]
  · intro i h1 h2
    have hi : i < 256 := by simpa [tabN] using h2
    rw [Array.getElem_setIfInBounds (by simpa [tabN] using hi)]
    by_cases e : k = i
    · subst e; simp [tabN]
    · rw [if_neg e]; simp only [tabN, List.getElem_toArray, List.getElem_map, List.getElem_range]
      by_cases h : i < k
      · rw [if_pos h, if_pos (by omega)]
      · rw [if_neg h, if_neg (by omega)]
theorem tab_at (i : Nat) (hi : i < 256) : (tabN 256)[i]? = some (Value.int .u32 ((bit8 i : Nat) : Int)) := by
  simp [tabN, hi]
theorem tab_get (k i : Nat) (hi : i < 256) : ∃ v, (tabN k)[i]? = some v := by
  exact ⟨_, Array.getElem?_eq_getElem (by simpa [tabN] using hi)⟩
theorem ret_int {k : IntKind} {a b : Int} (h : a = b) : Ending.returned (.int k a) = .returned (.int k b) := by rw [h]
def Bytes (l : List Int) : Prop := ∀ x ∈ l, 0 ≤ x ∧ x < 256
theorem Bytes.nat {l : List Int} (h : Bytes l) : ∀ c ∈ l.map Int.toNat, c < 256 := by
  intro c hc
  obtain ⟨x, hx, rfl⟩ := List.mem_map.1 hc
  have := h x hx
  omega
theorem Bytes.rd {l : List Int} (h : Bytes l) (k : Nat) (hk : k < l.length) : 0 ≤ Go.Proofs.YtbfmjbkhnbpbgaaGreatDoorW.PrintWords.rd l k ∧ Go.Proofs.YtbfmjbkhnbpbgaaGreatDoorW.PrintWords.rd l k < 256 := by
  unfold Go.Proofs.YtbfmjbkhnbpbgaaGreatDoorW.PrintWords.rd
  rw [Int.toNat_natCast, List.getD_eq_getElem?_getD, List.getElem?_eq_getElem hk]
  exact h _ (List.getElem_mem hk)
theorem crcAt_snoc (x : Nat) (l : List Int) (k : Nat) (hk : k < l.length) : crcAt x ((l.take (k + 1)).map Int.toNat) = bit8 (crcAt x ((l.take k).map Int.toNat) ^^^ (Go.Proofs.YtbfmjbkhnbpbgaaGreatDoorW.PrintWords.rd l k).toNat) := by
  rw [List.take_succ_eq_append_getElem hk]
  unfold crcAt Go.Proofs.YtbfmjbkhnbpbgaaGreatDoorW.PrintWords.rd
  rw [List.map_append, List.foldl_append]
  simp [List.getD_eq_getElem?_getD, List.getElem?_eq_getElem hk]
set_option maxHeartbeats 400000 in
set_option maxRecDepth 100000 in
theorem crc_On (A0 : Option Addr) (c0 : Nat) (l0 : List Int) (w : World) (hr0 : Kd.C (Kd.int .u8) w A0 l0.length l0) (hby : Bytes l0) :
    Calls Tryz.prog 76 #[.int .u32 0, .slice A0 l0.length c0] w fun e w' => e = .returned (.int .u32 (sumOf l0)) ∧ Below w.heap.size w w' := by
  have HB := Aside0.mk (Below.refl w.heap.size w)
  have HR := Aside0.mk hr0
  clear hr0
  go_enter Tryz.func76, Tryz.ntmps76
  go_wp2_with ((with_reducible refine gate_dst (N := 5) rfl ?_); refine box_event ?hg (N := 5) ?hd (cs := tabN 0) (t := 133) ?hr ?_; (case hd => rfl); (case hg => rfl); (case hr => rw [← tab0]; first | (go_simp; done) | (go_simp; rfl)); intro g hg w1 hbox hb; have BK := Aside0.mk hbox; have HB1 := Aside0.mk (below_step HB.out hb); have HG := Aside0.mk (show w.heap.size ≤ g by omega); clear hg hbox hb)
  clear HB
  go_loopw [6, 10] (fun _ v10 wr => ∃ k : Nat, k ≤ 256 ∧ v10 = .int .i64 k ∧ Aside0 (wr.heap[g]? = some (.cells (tabN k) 133 (0, 0))) ∧ Aside0 (Below w.heap.size w wr)) (fun _ v10 _ => (256 - intOf v10).toNat)
  case atStart => exact ⟨0, by omega, rfl, BK, HB1⟩
  case round =>
    obtain ⟨k, hk, rfl, BKr, HBr⟩ := hrel
    clear BK HB1
    by_cases hlt : k < 256
    · have hfz : wr.frozen? ⟨g, k, none⟩ = false := blk_frozen BKr.out k
      obtain ⟨vc, hvc⟩ := tab_get k k hlt
      have hcz : wr.cell? ⟨g, k, none⟩ = some vc := (blk_cell BKr.out k).trans hvc
      clear hvc
      go_wp2_with (go_at_call 92; go_must (refine (crc_step.calls 9 _ _ _ (step_f k (by omega))).mono ?_); rintro e w' ⟨rfl, ⟨nd, rfl⟩⟩)
      go_roundw
      case rel => exact ⟨k + 1, by omega, by go_num, ⟨by rw [← tab_set k hlt]; exact blk_set (by simpa using BKr.out) k _⟩, ⟨(pw_below_drewN HBr.out _).setCell HG.out _⟩⟩
      case measure => simp [intOf]; omega
    · have e : k = 256 := by omega
      subst e
      clear hlt hk
      go_wp2
      have e0 : Aside0 (Go.bits .xor .u32 IntKind.u32.max 0 = ((crcAt 4294967295 ((l0.take 0).map Int.toNat) : Nat) : Int)) := ⟨by rw [List.take_zero]; exact (by decide : Go.bits .xor .u32 IntKind.u32.max 0 = ((crcAt 4294967295 (([] : List Int).map Int.toNat) : Nat) : Int))⟩
      go_loopw [7, 9, 23] (fun v7 _ v23 wq => ∃ k : Nat, k ≤ l0.length ∧ v23 = .int .i64 k ∧ v7 = .int .u32 ((crcAt 4294967295 ((l0.take k).map Int.toNat) : Nat) : Int) ∧ Aside0 (wq.heap[g]? = some (.cells (tabN 256) 133 (0, 0))) ∧ Aside0 (Below w.heap.size w wq)) (fun _ _ v23 _ => l0.length - (intOf v23).toNat)
      case atStart => exact ⟨0, by omega, rfl, by rw [e0.out], BKr, HBr⟩
      case round =>
        obtain ⟨k, hk, rfl, rfl, BKq, HBq⟩ := hrel
        have hlen := HR.out.2.1
        by_cases hlt : k < l0.length
        · obtain ⟨ad, rfl, hc⟩ := Kd.at_int (Kd.C_below HR.out HBq.out) k (by omega) (by omega)
          rw [Int.toNat_natCast] at hc
          obtain ⟨hc0, hc1⟩ := hby.rd k hlt
          obtain ⟨c, ec⟩ : ∃ c : Nat, (c : Int) = rd l0 k := ⟨(rd l0 k).toNat, by omega⟩
          have hcs := crcAt_snoc 4294967295 l0 k hlt
          rw [← ec] at hc hc0 hc1 hcs
          rw [Int.toNat_natCast] at hcs
          clear ec
          have hxl : crcAt 4294967295 ((l0.take k).map Int.toNat) < 4294967296 := crcAt_lt _ (by decide) (fun d hd => hby.nat d (by
            obtain ⟨y, hy, rfl⟩ := List.mem_map.1 hd
            exact List.mem_map.2 ⟨y, List.mem_of_mem_take hy, rfl⟩))
          obtain ⟨x, ex⟩ : ∃ x, crcAt 4294967295 ((l0.take k).map Int.toNat) = x := ⟨_, rfl⟩
          rw [ex] at hxl hcs
          rw [ex]
          have hb : Go.bits .xor .u8 ((x : Int) % 256) (c : Int) = (((x % 256) ^^^ c : Nat) : Int) := by
            rw [show (x : Int) % 256 = ((x % 256 : Nat) : Int) by omega]
            exact u8_xor_nat _ _ (by omega) (by omega)
          have hj : (x % 256) ^^^ c < 256 := Nat.xor_lt_two_pow (n := 8) (by omega) (by omega)
          have ht := bit8_table x c (by omega)
          obtain ⟨j, ej⟩ : ∃ j, (x % 256) ^^^ c = j := ⟨_, rfl⟩
          rw [ej] at hb hj ht
          have hcell : wr.cell? ⟨g, j, none⟩ = some (.int .u32 ((bit8 j : Nat) : Int)) := (blk_cell BKq.out j).trans (tab_at j hj)
          have hn : Aside0 (Go.bits .xor .u32 ((x : Int) / 256) ((bit8 j : Nat) : Int) = ((crcAt 4294967295 ((l0.take (k + 1)).map Int.toNat) : Nat) : Int)) := ⟨by
            rw [show (x : Int) / 256 = ((x / 256 : Nat) : Int) by omega, u32_xor_nat _ _ (by omega) (bit8_lt (by omega)), ht, hcs]⟩
          clear ex e0 ej hcs ht hc1
          go_wp2
          go_roundw
          case rel => exact ⟨k + 1, by omega, by go_num, by rw [hn.out], BKq, HBq⟩
          case measure => simp [intOf]; omega
        · have e : k = l0.length := by omega
          subst e
          clear hlt hk e0
          have hn : Aside0 (Go.bits .xor .u32 IntKind.u32.max ((crcAt 4294967295 (l0.map Int.toNat) : Nat) : Int) = sumOf l0) := ⟨by
            have hx := crcAt_lt (l0.map Int.toNat) (x := 4294967295) (by decide) hby.nat
            rw [show IntKind.u32.max = ((4294967295 : Nat) : Int) from by decide, u32_xor_nat _ _ (by decide) hx]
            unfold sumOf sumN
            rw [not32 _ hx]⟩
          go_wp2
          go_ret
          exact ⟨ret_int hn.out, HBq.out⟩
end Go.Proofs.YtbfmjbkhnbpbgaaGreatDoor.H
