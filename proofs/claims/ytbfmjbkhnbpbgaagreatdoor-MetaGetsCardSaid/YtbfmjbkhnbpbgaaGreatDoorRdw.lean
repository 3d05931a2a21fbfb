/- The contract of (*word.Reader).Word. -/
import Derived.Test.YtbfmjbkhnbpbgaaGreatDoorRdr
set_option linter.unusedVariables false
set_option linter.unusedSimpArgs false
namespace Go.Proofs.YtbfmjbkhnbpbgaaGreatDoor.H
open Go.RowKit Go.Proofs.YtbfmjbkhnbpbgaaGreatDoorW.PrintWords Go.Proofs.YtbfmjbkhnbpbgaaGreatDoorW.PrintLast Go.Proofs.YtbfmjbkhnbpbgaaGreatDoorW.PrintMore
open Go.Proofs.YtbfmjbkhnbpbgaaGreatDoor.PF Go.Proofs.YtbfmjbkhnbpbgaaGreatDoor.Pl
def wordV (l : List Int) (i k : Nat) (b : Int) : Nat := if b = -1 ∧ i + k ≤ l.length then deN ((l.drop i).take k) else 0
def wordI (l : List Int) (i k : Nat) (b : Int) : Nat := if b = -1 ∧ i + k ≤ l.length then i + k else i
def wordB (l : List Int) (i k : Nat) (b : Int) : Int := if b = -1 ∧ i + k ≤ l.length then -1 else badAt b i
theorem u64_or_nat' (a b : Nat) (ha : a < 18446744073709551616) (hb : b < 18446744073709551616) : Go.bits .or .u64 (a : Int) (b : Int) = ((a ||| b : Nat) : Int) := by
  exact u64_or_nat a b ha hb
theorem deN_take (t : List Int) (j : Nat) (hj : j < t.length) : deN (t.take (j + 1)) = deN (t.take j) * 256 + (Go.Proofs.YtbfmjbkhnbpbgaaGreatDoorW.PrintWords.rd t j).toNat := by
  rw [List.take_succ_eq_append_getElem hj, deN_snoc]
  unfold Go.Proofs.YtbfmjbkhnbpbgaaGreatDoorW.PrintWords.rd
  simp [List.getD_eq_getElem?_getD, List.getElem?_eq_getElem hj]
theorem or_add (a x : Nat) (hx : x < 256) : a * 256 ||| x = a * 256 + x := by
  have := Nat.two_pow_add_eq_or_of_lt (i := 8) hx a
  rw [show 2 ^ 8 * a = a * 256 by omega] at this
  exact this.symm
set_option maxHeartbeats 800000 in
set_option maxRecDepth 100000 in
theorem rd_Word_no (B : Nat) (w : World) (g : Nat) (A : Option Addr) (c n i k : Nat) (b : Int) (hr : Rd w g A c n i b) (hg : B ≤ g) (hk : b ≠ -1 ∨ n < i + k) (hi : i ≤ n) (hc : n ≤ c) (hn : n ≤ 140737488355328) (hw : k = 1 ∨ k = 2 ∨ k = 4 ∨ k = 8) :
    Calls Tryz.prog 15 #[.pointer (some ⟨g, 0, none⟩), .int .i64 k] w fun e w' => e = .returned (.int .u64 0) ∧ Rd w' g A c n i (badAt b i) ∧ Kept1 B w w' g := by
  have HR := Aside0.mk hr
  clear hr
  have hk8 : k ≤ 8 := by omega
  have hrt := right_f k hw
  have HT := Aside0.mk (fun W (h : Rd W g A c n i b) => rd_take_no B W g A c n i k b h hg hk hi hc hn hk8)
  clear hk hw
  go_enter Tryz.func15, Tryz.ntmps15
  go_wp2_with (go_at_call 32; go_must (refine (word_right.calls _ _ _ hrt).mono ?_); rintro e w' ⟨rfl, ⟨nd, rfl⟩⟩)
  refine Calls.mono (HT.out _ ?hr) ?k
  case hr => exact HR.out
  rintro e w' ⟨rfl, hr', hk'⟩
  go_wp2
  go_loopw [5, 7, 21] (fun v5 _ v21 wr => v5 = .int .u64 0 ∧ v21 = .int .i64 0 ∧ wr = w') (fun _ _ _ _ => 0)
  case atStart => exact ⟨rfl, rfl, rfl⟩
  case round =>
    obtain ⟨rfl, rfl, rfl⟩ := hrel
    go_wp2
    go_ret
    exact ⟨rfl, hr', ((Kept1.refl B w g).drewN _).trans hk'⟩
set_option maxHeartbeats 800000 in
set_option maxRecDepth 100000 in
theorem rd_Word_ok (B : Nat) (w : World) (g : Nat) (A : Option Addr) (c i k : Nat) (l : List Int) (hr : Rd w g A c l.length i (-1)) (hC : ∀ W, Below B w W → Kd.C (Kd.int .u8) W A l.length l) (hby : Bytes l) (hg : B ≤ g) (hk : i + k ≤ l.length) (hc : l.length ≤ c) (hn : l.length ≤ 140737488355328) (hw : k = 1 ∨ k = 2 ∨ k = 4 ∨ k = 8) :
    Calls Tryz.prog 15 #[.pointer (some ⟨g, 0, none⟩), .int .i64 k] w fun e w' => e = .returned (.int .u64 (deN ((l.drop i).take k) : Nat)) ∧ Rd w' g A c l.length (i + k : Nat) (-1) ∧ Kept1 B w w' g := by
  have HR := Aside0.mk hr
  clear hr
  have hrt := right_f k hw
  have HT := Aside0.mk (fun W (h : Rd W g A c l.length i (-1)) => rd_take_ok B W g A c l.length i k h hg hk hc hn)
  have HC := Aside0.mk (fun W hb => tookV_C (hC W hb) hc hk)
  have hbt : Bytes ((l.drop i).take k) := fun x hx => hby x (List.mem_of_mem_drop (List.mem_of_mem_take hx))
  have htl : ((l.drop i).take k).length = k := by rw [List.length_take, List.length_drop]; omega
  obtain ⟨t, ht⟩ : ∃ t, (l.drop i).take k = t := ⟨_, rfl⟩
  obtain ⟨A', hA'⟩ : ∃ A', (if c = i then A else A.map (·.add i)) = A' := ⟨_, rfl⟩
  have htook : tookV A c i k = .slice A' k (c - i) := by rw [← hA']; rfl
  rw [htook] at HT
  rw [ht] at HC hbt htl ⊢
  rw [hA'] at HC
  clear ht htook hA' hC hk
  have hk8 : k ≤ 8 := by omega
  go_enter Tryz.func15, Tryz.ntmps15
  go_wp2_with (go_at_call 32; go_must (refine (word_right.calls _ _ _ hrt).mono ?_); rintro e w' ⟨rfl, ⟨nd, rfl⟩⟩)
  clear hrt hw
  refine Calls.mono (HT.out _ ?hr) ?k
  case hr => exact HR.out
  rintro e w' ⟨rfl, hr', hk'⟩
  have HK := Aside0.mk (And.intro hr' (((Kept1.refl B w g).drewN nd).trans hk'))
  clear hr' hk' HR HT
  go_wp2
  go_loopw [5, 7, 21] (fun v5 _ v21 wr => ∃ j : Nat, j ≤ k ∧ v5 = .int .u64 (deN (t.take j) : Nat) ∧ v21 = .int .i64 j ∧ wr = w') (fun _ _ v21 _ => k - (intOf v21).toNat)
  case atStart => exact ⟨0, by omega, rfl, rfl, rfl⟩
  case round =>
    obtain ⟨j, hj, rfl, rfl, rfl⟩ := hrel
    by_cases hlt : j < k
    · have hcw := HC.out _ HK.out.2.1
      obtain ⟨ad, rfl, hcell⟩ := Kd.at_int hcw j (by omega) (by omega)
      rw [Int.toNat_natCast] at hcell
      obtain ⟨hc0, hc1⟩ := hbt.rd j (by omega)
      have hd := deN_take t j (by omega)
      have hdl : deN (t.take j) < 256 ^ j := by
        have := deN_lt (t.take j) (fun x hx => hbt x (List.mem_of_mem_take hx))
        rwa [List.length_take, Nat.min_eq_left (by omega)] at this
      obtain ⟨x, ex⟩ : ∃ x : Nat, (x : Int) = rd t j := ⟨(rd t j).toNat, by omega⟩
      rw [← ex] at hcell hc0 hc1 hd
      rw [Int.toNat_natCast] at hd
      clear ex
      have h256 : 256 ^ j ≤ 72057594037927936 := by
        calc 256 ^ j ≤ 256 ^ 7 := Nat.pow_le_pow_right (by decide) (by omega)
          _ = 72057594037927936 := by decide
      obtain ⟨a, ea⟩ : ∃ a, deN (t.take j) = a := ⟨_, rfl⟩
      rw [ea] at hdl hd ⊢
      have hal : a < 72057594037927936 := by omega
      clear hcw hdl h256 ea
      have hor : Go.bits .or .u64 ((a : Int) * 256) (x : Int) = ((deN (t.take (j + 1)) : Nat) : Int) := by
        rw [show (a : Int) * 256 = ((a * 256 : Nat) : Int) by omega, u64_or_nat _ _ (by omega) (by omega), or_add a x (by omega), hd]
      clear hd
      go_wp2
      exact ⟨⟨j + 1, by omega, by first | rfl | rw [hor], by rw [show (j : Int) + 1 = ((j + 1 : Nat) : Int) by omega], trivial⟩, by
        show k - (intOf (.int .i64 ((j : Int) + 1))).toNat < k - (intOf (.int .i64 (j : Int))).toNat
        simp only [intOf]; omega⟩
    · have e : j = k := by omega
      subst e
      rw [List.take_of_length_le (by omega)]
      go_wp2
      go_ret
      exact ⟨rfl, HK.out⟩
/-- (*word.Reader).Word: a number of k bytes, or 0 and a note where they are missing. -/
theorem rd_Word (B : Nat) (w : World) (g : Nat) (A : Option Addr) (c i k : Nat) (l : List Int) (b : Int) (hr : Rd w g A c l.length i b) (hC : ∀ W, Below B w W → Kd.C (Kd.int .u8) W A l.length l) (hby : Bytes l) (hg : B ≤ g) (hi : i ≤ l.length) (hc : l.length ≤ c) (hn : l.length ≤ 140737488355328) (hw : k = 1 ∨ k = 2 ∨ k = 4 ∨ k = 8) :
    Calls Tryz.prog 15 #[.pointer (some ⟨g, 0, none⟩), .int .i64 k] w fun e w' => e = .returned (.int .u64 (wordV l i k b : Nat)) ∧ Rd w' g A c l.length (wordI l i k b : Nat) (wordB l i k b) ∧ Kept1 B w w' g := by
  unfold wordV wordI wordB
  by_cases h : b = -1 ∧ i + k ≤ l.length
  · rw [if_pos h, if_pos h, if_pos h]
    obtain ⟨rfl, h⟩ := h
    exact rd_Word_ok B w g A c i k l hr hC hby hg h hc hn hw
  · rw [if_neg h, if_neg h, if_neg h]
    exact rd_Word_no B w g A c l.length i k b hr hg (by by_cases hb : b = -1; exact Or.inr (by by_cases hk : i + k ≤ l.length; exact absurd ⟨hb, hk⟩ h; omega); exact Or.inl hb) hi hc hn hw
theorem wordI_le {l : List Int} {i k : Nat} {b : Int} (hi : i ≤ l.length) : wordI l i k b ≤ l.length := by
  unfold wordI
  split
  · rename_i h; exact h.2
  · exact hi
theorem wordV_lt {l : List Int} {i k : Nat} {b : Int} (hb : Bytes l) : wordV l i k b < 256 ^ k := by
  unfold wordV
  split
  · rename_i h
    have := deN_lt ((l.drop i).take k) (fun x hx => hb x (List.mem_of_mem_drop (List.mem_of_mem_take hx)))
    rwa [List.length_take, List.length_drop, Nat.min_eq_left (by omega)] at this
  · exact Nat.pow_pos (by decide)
end Go.Proofs.YtbfmjbkhnbpbgaaGreatDoor.H
