/- A byte that is changed changes the seal; what words read of what words wrote. Plain laws. -/
import Derived.Test.YtbfmjbkhnbpbgaaGreatDoorWord
set_option linter.unusedVariables false
namespace Go.Proofs.YtbfmjbkhnbpbgaaGreatDoor.H
open Go.RowKit Go.Proofs.YtbfmjbkhnbpbgaaGreatDoorW.PrintWords Go.Proofs.YtbfmjbkhnbpbgaaGreatDoorW.PrintLast Go.Proofs.YtbfmjbkhnbpbgaaGreatDoorW.PrintMore
open Go.Proofs.YtbfmjbkhnbpbgaaGreatDoor.PF Go.Proofs.YtbfmjbkhnbpbgaaGreatDoor.Pl
theorem xor_inj {a b c : Nat} (h : a ^^^ c = b ^^^ c) : a = b := by
  have := congrArg (· ^^^ c) h
  simpa [Nat.xor_assoc] using this
theorem xor_inj' {a b c : Nat} (h : c ^^^ a = c ^^^ b) : a = b := xor_inj (c := c) (by rw [Nat.xor_comm a, Nat.xor_comm b]; exact h)
theorem bit1_mixed {a b : Nat} (ha : a < 2147483648) (hb : b < 2147483648) : a ^^^ 3988292384 ≠ b := by
  intro h
  have h1 : (a ^^^ 3988292384).testBit 31 = b.testBit 31 := by rw [h]
  rw [Nat.testBit_xor, Nat.testBit_lt_two_pow (x := a) (i := 31) (by omega), Nat.testBit_lt_two_pow (x := b) (i := 31) (by omega)] at h1
  exact absurd h1 (by decide)
theorem bit1_inj {a b : Nat} (ha : a < 4294967296) (hb : b < 4294967296) (h : bit1 a = bit1 b) : a = b := by
  unfold bit1 at h
  split at h <;> split at h
  · have := xor_inj h; omega
  · exact absurd h (bit1_mixed (by omega) (by omega))
  · exact absurd h.symm (bit1_mixed (by omega) (by omega))
  · omega
theorem bitsN_inj : ∀ (n : Nat) {a b : Nat}, a < 4294967296 → b < 4294967296 → bitsN n a = bitsN n b → a = b
  | 0, _, _, _, _, h => h
  | n + 1, _, _, ha, hb, h => bit1_inj ha hb (bitsN_inj n (bit1_lt ha) (bit1_lt hb) h)
theorem xor32 {x c : Nat} (hx : x < 4294967296) (hc : c < 256) : x ^^^ c < 4294967296 := Nat.xor_lt_two_pow (n := 32) hx (by omega)
theorem crcAt_inj : ∀ (l : List Nat) {x y : Nat}, x < 4294967296 → y < 4294967296 → (∀ c ∈ l, c < 256) → crcAt x l = crcAt y l → x = y
  | [], _, _, _, _, _, h => h
  | c :: l, x, y, hx, hy, hl, h => by
    have hc : c < 256 := hl c (by simp)
    have := crcAt_inj l (bit8_lt (xor32 hx hc)) (bit8_lt (xor32 hy hc)) (fun d hd => hl d (by simp [hd])) h
    exact xor_inj (bitsN_inj 8 (xor32 hx hc) (xor32 hy hc) this)
theorem crcAt_append (x : Nat) (l1 l2 : List Nat) : crcAt x (l1 ++ l2) = crcAt (crcAt x l1) l2 := by unfold crcAt; rw [List.foldl_append]
theorem sumN_ne {l1 l2 : List Nat} {c d : Nat} (h1 : ∀ c ∈ l1, c < 256) (h2 : ∀ c ∈ l2, c < 256) (hc : c < 256) (hd : d < 256) (hne : c ≠ d) : sumN (l1 ++ c :: l2) ≠ sumN (l1 ++ d :: l2) := by
  intro h
  have hx := crcAt_lt l1 (x := 4294967295) (by decide) h1
  have e : ∀ b, crcAt 4294967295 (l1 ++ b :: l2) = crcAt (bit8 (crcAt 4294967295 l1 ^^^ b)) l2 := fun b => by rw [crcAt_append]; rfl
  have hb : ∀ b, b < 256 → crcAt 4294967295 (l1 ++ b :: l2) < 4294967296 := fun b hb => by rw [e]; exact crcAt_lt _ (bit8_lt (xor32 hx hb)) h2
  have hq : crcAt 4294967295 (l1 ++ c :: l2) = crcAt 4294967295 (l1 ++ d :: l2) := by
    have a1 := hb c hc
    have a2 := hb d hd
    unfold sumN at h
    omega
  rw [e, e] at hq
  exact hne (xor_inj' (bitsN_inj 8 (xor32 hx hc) (xor32 hx hd) (crcAt_inj l2 (bit8_lt (xor32 hx hc)) (bit8_lt (xor32 hx hd)) h2 hq)))
/-- What bytes come to, the greatest first. -/
def deN (l : List Int) : Nat := l.foldl (fun a x => a * 256 + x.toNat) 0
theorem deN_snoc (l : List Int) (x : Int) : deN (l ++ [x]) = deN l * 256 + x.toNat := by unfold deN; rw [List.foldl_append]; rfl
theorem deN_beN : ∀ (w n : Nat), n < 256 ^ w → deN (beN w n) = n
  | 0, n, h => by
    have : n = 0 := by simpa using h
    subst this; rfl
  | w + 1, n, h => by
    show deN (beN w (n / 256) ++ [((n % 256 : Nat) : Int)]) = n
    rw [deN_snoc, deN_beN w (n / 256) (by rw [Nat.pow_succ] at h; exact Nat.div_lt_of_lt_mul (by rw [Nat.mul_comm]; exact h)), Int.toNat_natCast]
    omega
theorem beN_inj {w n m : Nat} (hn : n < 256 ^ w) (hm : m < 256 ^ w) (h : beN w n = beN w m) : n = m := by
  rw [← deN_beN w n hn, ← deN_beN w m hm, h]
theorem deN_lt' : ∀ (n : Nat) (l : List Int), l.length = n → Bytes l → deN l < 256 ^ n
  | 0, l, hn, _ => by rw [List.length_eq_zero_iff.1 hn]; decide
  | n + 1, l, hn, hb => by
    rcases List.eq_nil_or_concat l with rfl | ⟨l', x, rfl⟩
    · simp at hn
    · rw [List.concat_eq_append] at hn hb ⊢
      have h1 := deN_lt' n l' (by simpa using hn) (fun y hy => hb y (List.mem_append.2 (Or.inl hy)))
      have h2 := hb x (by simp)
      rw [deN_snoc, Nat.pow_succ]
      omega
theorem deN_lt (l : List Int) (hb : Bytes l) : deN l < 256 ^ l.length := deN_lt' _ l rfl hb
/-- Bytes that are not sealed: a sealed list of which one byte was changed. -/
theorem sealed_changed {l : List Int} (hb : Bytes l) {i : Nat} {c : Int} (hi : i < (sealed l).length) (hc0 : 0 ≤ c) (hc : c < 256) (hne : (sealed l)[i]? ≠ some c) :
    sealed (((sealed l).set i c).take l.length) ≠ (sealed l).set i c := by
  rw [seal_length] at hi
  by_cases h : i < l.length
  · have e1 : (sealed l).set i c = l.set i c ++ beN 4 (sumN (l.map Int.toNat)) := by unfold sealed; rw [List.set_append_left _ _ h]
    have e2 : (l.set i c ++ beN 4 (sumN (l.map Int.toNat))).take l.length = l.set i c := List.take_left' (by simp)
    rw [e1, e2]
    intro hs
    have hs' := List.append_cancel_left (show l.set i c ++ beN 4 (sumN ((l.set i c).map Int.toNat)) = _ from hs)
    have hq := beN_inj (w := 4) (sumN_lt _) (sumN_lt _) hs'
    obtain ⟨l1, d, l2, rfl, rfl⟩ : ∃ l1 d l2, l = l1 ++ d :: l2 ∧ i = l1.length := ⟨l.take i, l[i], l.drop (i + 1), by rw [List.getElem_cons_drop, List.take_append_drop], by simp; omega⟩
    have e3 : (l1 ++ d :: l2).set l1.length c = l1 ++ c :: l2 := by rw [List.set_append_right _ _ (Nat.le_refl _)]; simp
    rw [e3, List.map_append, List.map_append, List.map_cons, List.map_cons] at hq
    have hd := hb d (by simp)
    have hdc : d ≠ c := by
      intro hdc
      apply hne
      unfold sealed
      rw [List.getElem?_append_left h]
      simp [hdc]
    exact sumN_ne (Bytes.nat (fun y hy => hb y (by simp [hy]))) (Bytes.nat (fun y hy => hb y (by simp [hy]))) (by omega) (by omega) (by omega) hq
  · have e1 : (sealed l).set i c = l ++ (beN 4 (sumN (l.map Int.toNat))).set (i - l.length) c := by unfold sealed; rw [List.set_append_right _ _ (by omega)]
    rw [e1, List.take_left' rfl]
    intro hs
    have hs' := List.append_cancel_left (show l ++ beN 4 (sumN (l.map Int.toNat)) = _ from hs)
    apply hne
    unfold sealed
    rw [List.getElem?_append_right (by omega), hs', List.getElem?_set_self (by rw [beN_length]; omega)]
end Go.Proofs.YtbfmjbkhnbpbgaaGreatDoor.H
