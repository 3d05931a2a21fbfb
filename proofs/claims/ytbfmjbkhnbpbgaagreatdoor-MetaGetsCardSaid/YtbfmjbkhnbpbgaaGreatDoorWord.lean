/- What the printed functions of words, and of the references' bytes and sums, answer: plain laws. -/
import Derived.Test.YtbfmjbkhnbpbgaaGreatDoorCrc
set_option linter.unusedVariables false
namespace Go.Proofs.YtbfmjbkhnbpbgaaGreatDoor.H
open Go.RowKit Go.Proofs.YtbfmjbkhnbpbgaaGreatDoorW.PrintWords Go.Proofs.YtbfmjbkhnbpbgaaGreatDoorW.PrintLast Go.Proofs.YtbfmjbkhnbpbgaaGreatDoorW.PrintMore
open Go.Proofs.YtbfmjbkhnbpbgaaGreatDoor.PF Go.Proofs.YtbfmjbkhnbpbgaaGreatDoor.Pl
/-- A number's bytes, the greatest first. -/
def beN : Nat → Nat → List Int
  | 0, _ => []
  | w + 1, n => beN w (n / 256) ++ [((n % 256 : Nat) : Int)]
theorem beN_length : ∀ w n, (beN w n).length = w
  | 0, _ => rfl
  | w + 1, n => by simp [beN, beN_length w]
theorem beN_bytes : ∀ w n, Bytes (beN w n)
  | 0, _ => by intro x hx; simp [beN] at hx
  | w + 1, n => by
    intro x hx
    rcases List.mem_append.1 hx with h | h
    · exact beN_bytes w _ x h
    · rw [List.mem_singleton.1 h]; omega
theorem Bytes.append {a b : List Int} (ha : Bytes a) (hb : Bytes b) : Bytes (a ++ b) := fun x hx => (List.mem_append.1 hx).elim (ha x) (hb x)
theorem Bytes.nil : Bytes [] := fun x hx => by simp at hx
theorem beN_top : ∀ w n, beN (w + 1) n = ((n / 256 ^ w % 256 : Nat) : Int) :: beN w n
  | 0, n => by simp [beN]
  | w + 1, n => by
    show beN (w + 1) (n / 256) ++ [((n % 256 : Nat) : Int)] = _
    rw [beN_top w (n / 256), Nat.div_div_eq_div_mul, show 256 * 256 ^ w = 256 ^ (w + 1) by rw [Nat.pow_succ, Nat.mul_comm]]
    rfl
theorem pow256 (i : Nat) : (2 : Int) ^ (8 * i) = ((256 ^ i : Nat) : Int) := by
  rw [show (256 : Nat) ^ i = 2 ^ (8 * i) from by rw [Nat.pow_mul], Int.natCast_pow]; rfl
theorem shr_be (n i : Nat) (hi : i ≤ 7) : (shr .u64 (n : Int) (8 * (i : Int))) % 256 = ((n / 256 ^ i % 256 : Nat) : Int) := by
  unfold shr
  have e : min (8 * (i : Int)).toNat IntKind.u64.bits = 8 * i := by
    have : IntKind.u64.bits = 64 := rfl
    omega
  rw [e, pow256, ← Int.natCast_ediv]
  rfl
theorem shr_z (n i : Nat) (hi : i ≤ 7) (h : n < 256 ^ i) : shr .u64 (n : Int) (8 * (i : Int)) = 0 := by
  unfold shr
  have e : min (8 * (i : Int)).toNat IntKind.u64.bits = 8 * i := by
    have : IntKind.u64.bits = 64 := rfl
    omega
  rw [e, pow256]
  rw [← Int.natCast_ediv, Nat.div_eq_of_lt h]
  rfl
theorem put_l0 (n : Nat) : ∀ (i k : Nat) (l : List Int), i ≤ 8 → i < k → l.length + i ≤ 140737488355328 → word_Put.l0 k (n : Int) l ((i : Int) - 1) = some (l ++ beN i n, none)
  | 0, k, l, hi, hk, hl => by
    obtain ⟨k, rfl⟩ : ∃ m, k = m + 1 := ⟨k - 1, by omega⟩
    unfold word_Put.l0
    rw [if_neg (by omega)]
    simp [beN]
  | i + 1, k, l, hi, hk, hl => by
    obtain ⟨k, rfl⟩ : ∃ m, k = m + 1 := ⟨k - 1, by omega⟩
    unfold word_Put.l0
    have e1 : ((i + 1 : Nat) : Int) - 1 = (i : Int) := by omega
    have e2 : wrap64 (8 * (i : Int)) = 8 * (i : Int) := by unfold wrap64; omega
    have e3 : wrap64 ((i : Int) - 1) = (i : Int) - 1 := by unfold wrap64; omega
    rw [e1, if_pos (by omega), e2, if_pos (by omega), if_pos (by omega), e3, shr_be n i (by omega), put_l0 n i k _ (by omega) (by omega) (by simp; omega), beN_top, List.append_assoc, List.singleton_append]
theorem right_f (w : Nat) (h : w = 1 ∨ w = 2 ∨ w = 4 ∨ w = 8) : word_right.f (w : Int) = some true := by
  rcases h with rfl | rfl | rfl | rfl <;> rfl
theorem put_f (w n k : Nat) (l : List Int) (h : w = 1 ∨ w = 2 ∨ w = 4 ∨ w = 8) (hn : n < 256 ^ w) (hk : 10 ≤ k) (hl : l.length ≤ 140737488355000) :
    word_Put.f k l (w : Int) (n : Int) = some (l ++ beN w n, none) := by
  obtain ⟨k, rfl⟩ : ∃ m, k = m + 1 := ⟨k - 1, by omega⟩
  have e3 : wrap64 ((w : Int) - 1) = (w : Int) - 1 := by unfold wrap64; omega
  have hj : word_Put.j0 (k + 1) l (w : Int) (n : Int) false = some (l ++ beN w n, none) := by
    rw [word_Put.j0]
    rw [if_neg (by decide)]
    simp only [Option.bind_some, List.length_nil, List.nil_append]
    rw [if_pos (by omega), e3]
    exact put_l0 n w k l (by omega) (by omega) (by omega)
  unfold word_Put.f
  rw [right_f w h]
  simp only [Option.bind_some, if_true]
  by_cases h8 : w < 8
  · have e2 : wrap64 (8 * (w : Int)) = 8 * (w : Int) := by unfold wrap64; omega
    rw [if_pos (by omega), e2, if_pos (by omega), shr_z n w (by omega) hn]
    exact hj
  · rw [if_neg (by omega)]
    exact hj
theorem u64_small (n : Nat) (h : n < 18446744073709551616) : IntKind.u64.wrap (n : Int) = n := by rw [IntKind.wrap_u64]; omega
theorem bytes_f (w n k : Nat) (hw : w ≤ 8) (hn : n < 18446744073709551616) (hk : w < k) : tankardref01_Bytes.f k (w : Int) (n : Int) = some (beN w n) := by
  induction w generalizing n k with
  | zero =>
    obtain ⟨k, rfl⟩ : ∃ m, k = m + 1 := ⟨k - 1, by omega⟩
    unfold tankardref01_Bytes.f
    exact (if_pos rfl).trans rfl
  | succ w ih =>
    obtain ⟨k, rfl⟩ : ∃ m, k = m + 1 := ⟨k - 1, by omega⟩
    unfold tankardref01_Bytes.f
    have e1 : wrap64 (((w + 1 : Nat) : Int) - 1) = (w : Int) := by unfold wrap64; omega
    have e2 : Int.tdiv (n : Int) 256 = ((n / 256 : Nat) : Int) := rfl
    have e3 : Int.tmod (n : Int) 256 = ((n % 256 : Nat) : Int) := rfl
    rw [if_neg (by omega), e1, e2, u64_small _ (by omega), ih (n / 256) k (by omega) (by omega) (by omega)]
    simp only [Option.bind_some]
    rw [if_pos (by rw [beN_length]; omega), e3]
    show some (beN w (n / 256) ++ [((n % 256 : Nat) : Int) % 256]) = some (beN w (n / 256) ++ [((n % 256 : Nat) : Int)])
    rw [show ((n % 256 : Nat) : Int) % 256 = ((n % 256 : Nat) : Int) by omega]
/-! ### the reference's sum -/
theorem sum_l1 (l : List Int) (j : Int) (r : Option Int) : ∀ (n k : Nat) (x : Nat) (i : Int), x < 4294967296 → 0 ≤ i → i + n = 8 → n < k → tankardref01_Sum.l0 (k - n - 1) l ((bitsN n x : Nat) : Int) (wrap64 (j + 1)) = r → tankardref01_Sum.l1 k l (x : Int) j i = r
  | 0, k, x, i, hx, h0, hi, hk, hr => by
    obtain ⟨k, rfl⟩ : ∃ m, k = m + 1 := ⟨k - 1, by omega⟩
    unfold tankardref01_Sum.l1; rw [if_neg (by omega)]; exact hr
  | n + 1, k, x, i, hx, h0, hi, hk, hr => by
    obtain ⟨k, rfl⟩ : ∃ m, k = m + 1 := ⟨k - 1, by omega⟩
    unfold tankardref01_Sum.l1; rw [if_pos (by omega), wrap_small h0 (by omega)]
    have h1 : Int.tmod (x : Int) 2 = ((x % 2 : Nat) : Int) := rfl
    have h2 : (Int.tdiv (x : Int) 2) % 4294967296 = ((x / 2 : Nat) : Int) := by
      show ((x / 2 : Nat) : Int) % 4294967296 = _
      omega
    rw [h1, h2]
    have hr' : tankardref01_Sum.l0 (k - n - 1) l ((bitsN n (bit1 x) : Nat) : Int) (wrap64 (j + 1)) = r := by
      rw [show k - n - 1 = k + 1 - (n + 1) - 1 by omega]; exact hr
    by_cases hb : x % 2 = 1
    · rw [if_pos (by omega), show (3988292384 : Int) = ((3988292384 : Nat) : Int) from rfl, u32_xor_nat (x / 2) 3988292384 (by omega) (by decide)]
      have e : bit1 x = (x / 2) ^^^ 3988292384 := by unfold bit1; rw [if_pos hb]
      rw [e] at hr'
      exact sum_l1 l j r n k _ (i + 1) (by rw [← e]; exact bit1_lt hx) (by omega) (by omega) (by omega) hr'
    · rw [if_neg (by omega)]
      have e : bit1 x = x / 2 := by unfold bit1; rw [if_neg hb]
      rw [e] at hr'
      exact sum_l1 l j r n k _ (i + 1) (by omega) (by omega) (by omega) (by omega) hr'
theorem crc_tail_lt {l : List Int} (hb : Bytes l) (j : Nat) : crcAt 4294967295 ((l.take j).map Int.toNat) < 4294967296 :=
  crcAt_lt _ (by decide) (fun d hd => hb.nat d (by
    obtain ⟨y, hy, rfl⟩ := List.mem_map.1 hd
    exact List.mem_map.2 ⟨y, List.mem_of_mem_take hy, rfl⟩))
theorem sum_l0 (l : List Int) (hb : Bytes l) (hlen : l.length ≤ 9223372036854775000) : ∀ (d j k : Nat), j + d = l.length → 10 * d < k → tankardref01_Sum.l0 k l ((crcAt 4294967295 ((l.take j).map Int.toNat) : Nat) : Int) (j : Int) = some (sumOf l)
  | 0, j, k, hj, hk => by
    obtain ⟨k, rfl⟩ : ∃ m, k = m + 1 := ⟨k - 1, by omega⟩
    unfold tankardref01_Sum.l0
    rw [if_neg (by omega), List.take_of_length_le (by omega)]
    have hx := crcAt_lt (l.map Int.toNat) (x := 4294967295) (by decide) hb.nat
    unfold sumOf sumN
    exact congrArg some (by omega)
  | d + 1, j, k, hj, hk => by
    obtain ⟨k, rfl⟩ : ∃ m, k = m + 1 := ⟨k - 1, by omega⟩
    unfold tankardref01_Sum.l0
    rw [if_pos (by omega), if_pos (by omega)]
    obtain ⟨h0, h1⟩ := hb.rd j (by omega)
    have hx := crc_tail_lt hb j
    have hs := crcAt_snoc 4294967295 l j (by omega)
    obtain ⟨c, ec⟩ : ∃ c : Nat, (c : Int) = rd l j := ⟨(rd l j).toNat, by omega⟩
    rw [← ec] at h0 h1 hs ⊢
    rw [Int.toNat_natCast] at hs
    have hxc : crcAt 4294967295 ((l.take j).map Int.toNat) ^^^ c < 4294967296 := Nat.xor_lt_two_pow (n := 32) hx (by omega)
    rw [show (c : Int) % 4294967296 = (c : Int) by omega, u32_xor_nat _ _ hx (by omega)]
    refine sum_l1 l (j : Int) _ 8 k _ 0 hxc (by omega) (by omega) (by omega) ?_
    rw [show wrap64 ((j : Int) + 1) = ((j + 1 : Nat) : Int) by unfold wrap64; omega]
    have := sum_l0 l hb hlen d (j + 1) (k - 8 - 1) (by omega) (by omega)
    rw [hs] at this
    exact this
theorem sum_f (l : List Int) (hb : Bytes l) (hlen : l.length ≤ 9223372036854775000) (k : Nat) (hk : 10 * l.length < k) : tankardref01_Sum.f k l = some (sumOf l) := by
  have := sum_l0 l hb hlen l.length 0 k (by omega) hk
  exact this
theorem sumN_lt (l : List Nat) : sumN l < 4294967296 := by unfold sumN; omega
/-- Sealed bytes. -/
def sealed (l : List Int) : List Int := l ++ beN 4 (sumN (l.map Int.toNat))
theorem seal_length (l : List Int) : (sealed l).length = l.length + 4 := by simp [sealed, beN_length]
theorem seal_bytes {l : List Int} (h : Bytes l) : Bytes (sealed l) := h.append (beN_bytes 4 _)
theorem seal_f (l : List Int) (hb : Bytes l) (hlen : l.length ≤ 140737488355000) (k : Nat) (hk : 10 * l.length + 10 < k) : tankardref01_Seal.f k l = some (sealed l) := by
  unfold tankardref01_Seal.f
  simp only [Option.bind_some, List.length_nil, List.nil_append]
  rw [if_pos (by omega), sum_f l hb (by omega) k (by omega)]
  simp only [Option.bind_some]
  have h := sumN_lt (l.map Int.toNat)
  have e : IntKind.u64.wrap (sumOf l) = ((sumN (l.map Int.toNat) : Nat) : Int) := u64_small _ (by omega)
  rw [e, show (4 : Int) = ((4 : Nat) : Int) from rfl, bytes_f 4 _ k (by omega) (by omega) (by omega)]
  simp only [Option.bind_some]
  rw [if_pos (by rw [beN_length]; omega)]
  rfl
end Go.Proofs.YtbfmjbkhnbpbgaaGreatDoor.H
