/- Plain laws on sums of bytes: eight bits at once by a table are eight bits one by one. No program. -/
import Derived.Laws.BitsAllLaws
namespace Go.Proofs.YtbfmjbkhnbpbgaaGreatDoor.Pl
def bit1 (x : Nat) : Nat := if x % 2 = 1 then (x / 2) ^^^ 3988292384 else x / 2
def bitsN : Nat → Nat → Nat
  | 0, x => x
  | n + 1, x => bitsN n (bit1 x)
def bit8 (x : Nat) : Nat := bitsN 8 x
theorem bit1_lt {x : Nat} (h : x < 4294967296) : bit1 x < 4294967296 := by
  unfold bit1
  split
  · exact Nat.xor_lt_two_pow (n := 32) (by omega) (by omega)
  · omega
theorem bitsN_lt : ∀ (n : Nat) {x : Nat}, x < 4294967296 → bitsN n x < 4294967296
  | 0, _, h => h
  | n + 1, _, h => bitsN_lt n (bit1_lt h)
theorem bit1_xor (a b : Nat) : bit1 (a ^^^ b) = bit1 a ^^^ bit1 b := by
  have h1 : (a ^^^ b) / 2 = a / 2 ^^^ b / 2 := Nat.xor_div_two
  have h2 : (a ^^^ b) % 2 = (a + b) % 2 := by
    have h3 : (a ^^^ b) % 2 ^ 1 = a % 2 ^ 1 ^^^ b % 2 ^ 1 := Nat.xor_mod_two_pow
    rw [Nat.pow_one] at h3
    rw [h3]
    rcases Nat.mod_two_eq_zero_or_one a with ha | ha <;> rcases Nat.mod_two_eq_zero_or_one b with hb | hb <;> rw [ha, hb] <;> simp <;> omega
  unfold bit1
  rw [h1, h2]
  by_cases ha : a % 2 = 1 <;> by_cases hb : b % 2 = 1
  · rw [if_neg (by omega), if_pos ha, if_pos hb]
    rw [show a / 2 ^^^ 3988292384 ^^^ (b / 2 ^^^ 3988292384) = (a / 2 ^^^ b / 2) ^^^ (3988292384 ^^^ 3988292384) from by ac_rfl, Nat.xor_self, Nat.xor_zero]
  · rw [if_pos (by omega), if_pos ha, if_neg hb]; ac_rfl
  · rw [if_pos (by omega), if_neg ha, if_pos hb]; ac_rfl
  · rw [if_neg (by omega), if_neg ha, if_neg hb]
theorem bitsN_xor : ∀ (n a b : Nat), bitsN n (a ^^^ b) = bitsN n a ^^^ bitsN n b
  | 0, _, _ => rfl
  | n + 1, a, b => by
    show bitsN n (bit1 (a ^^^ b)) = _
    rw [bit1_xor, bitsN_xor n]; rfl
theorem bitsN_shift : ∀ (n a : Nat), bitsN n (2 ^ n * a) = a
  | 0, a => by simp [bitsN]
  | n + 1, a => by
    show bitsN n (bit1 (2 ^ (n + 1) * a)) = a
    have : bit1 (2 ^ (n + 1) * a) = 2 ^ n * a := by
      have e : 2 ^ (n + 1) * a = 2 * (2 ^ n * a) := by rw [Nat.pow_succ]; ac_rfl
      unfold bit1
      rw [e, if_neg (by omega), Nat.mul_div_cancel_left _ (by decide)]
    rw [this, bitsN_shift n]
theorem split256 (y : Nat) : (256 * (y / 256)) ^^^ (y % 256) = y := by
  have h : y = 2 ^ 8 * (y / 256) + y % 256 := by have := Nat.div_add_mod y 256; omega
  have h2 : 2 ^ 8 * (y / 256) + y % 256 = 2 ^ 8 * (y / 256) ||| y % 256 := Nat.two_pow_add_eq_or_of_lt (by omega) _
  have h3 : 2 ^ 8 * (y / 256) ^^^ y % 256 = 2 ^ 8 * (y / 256) ||| y % 256 := by
    apply Nat.eq_of_testBit_eq
    intro i
    rw [Nat.testBit_xor, Nat.testBit_or, Nat.testBit_two_pow_mul]
    by_cases hi : 8 ≤ i
    · have : (y % 256).testBit i = false := Nat.testBit_lt_two_pow (Nat.lt_of_lt_of_le (Nat.mod_lt _ (by decide)) (by
        calc 256 = 2 ^ 8 := by decide
          _ ≤ 2 ^ i := Nat.pow_le_pow_right (by decide) hi))
      simp [this]
    · simp [hi]
  show 2 ^ 8 * (y / 256) ^^^ y % 256 = y
  rw [h3, ← h2, ← h]
/-- THE TABLE's STEP. -/
theorem bit8_step (y : Nat) : bit8 y = y / 256 ^^^ bit8 (y % 256) := by
  conv => lhs; rw [← split256 y]
  unfold bit8
  rw [bitsN_xor, show (256 : Nat) = 2 ^ 8 from rfl, bitsN_shift]
theorem xor_div256 (x c : Nat) (hc : c < 256) : (x ^^^ c) / 256 = x / 256 := by
  have h : (x ^^^ c) / 2 ^ 8 = x / 2 ^ 8 ^^^ c / 2 ^ 8 := Nat.xor_div_two_pow
  rw [show (256:Nat) = 2 ^ 8 from rfl, h, Nat.div_eq_of_lt (a := c) hc, Nat.xor_zero]
theorem xor_mod256 (x c : Nat) (hc : c < 256) : (x ^^^ c) % 256 = (x % 256) ^^^ c := by
  have h : (x ^^^ c) % 2 ^ 8 = x % 2 ^ 8 ^^^ c % 2 ^ 8 := Nat.xor_mod_two_pow
  rw [show (256:Nat) = 2 ^ 8 from rfl, h, Nat.mod_eq_of_lt (a := c) hc]
/-- x>>8 ^ table[byte(x)^c] is eight bits of x ^ c. -/
theorem bit8_table (x c : Nat) (hc : c < 256) : x / 256 ^^^ bit8 ((x % 256) ^^^ c) = bit8 (x ^^^ c) := by
  rw [bit8_step (x ^^^ c), xor_div256 x c hc, xor_mod256 x c hc]
def crcAt (x : Nat) (l : List Nat) : Nat := l.foldl (fun x c => bit8 (x ^^^ c)) x
theorem crcAt_lt : ∀ (l : List Nat) {x : Nat}, x < 4294967296 → (∀ c ∈ l, c < 256) → crcAt x l < 4294967296
  | [], _, h, _ => h
  | c :: l, x, h, hl => by
    show crcAt (bit8 (x ^^^ c)) l < _
    exact crcAt_lt l (bitsN_lt 8 (Nat.xor_lt_two_pow (n := 32) h (by have := hl c (by simp); omega))) (fun d hd => hl d (by simp [hd]))
theorem bit8_lt {x : Nat} (h : x < 4294967296) : bit8 x < 4294967296 := bitsN_lt 8 h
theorem not32 (y : Nat) (h : y < 4294967296) : 4294967295 ^^^ y = 4294967295 - y := by
  apply Nat.eq_of_testBit_eq
  intro i
  have h1 : (2 ^ 32 - (y + 1)).testBit i = (decide (i < 32) && !y.testBit i) := Nat.testBit_two_pow_sub_succ h i
  have h2 : (2 ^ 32 - 1).testBit i = decide (i < 32) := Nat.testBit_two_pow_sub_one 32 i
  rw [show 4294967295 - y = 2 ^ 32 - (y + 1) by omega, h1, Nat.testBit_xor, show 4294967295 = 2 ^ 32 - 1 from rfl, h2]
  by_cases hi : i < 32
  · simp [hi]
  · have : y.testBit i = false := Nat.testBit_lt_two_pow (Nat.lt_of_lt_of_le h (by
      calc 4294967296 = 2 ^ 32 := by decide
        _ ≤ 2 ^ i := Nat.pow_le_pow_right (by decide) (by omega)))
    simp [hi, this]
/-- The sum of bytes. -/
def sumN (l : List Nat) : Nat := 4294967295 - crcAt 4294967295 l
def sumOf (l : List Int) : Int := (sumN (l.map Int.toNat) : Nat)
end Go.Proofs.YtbfmjbkhnbpbgaaGreatDoor.Pl
