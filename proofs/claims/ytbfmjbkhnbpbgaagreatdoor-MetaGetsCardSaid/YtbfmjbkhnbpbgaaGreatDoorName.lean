/- Contracts of meta's digits and of meta.Name. -/
import Derived.Test.YtbfmjbkhnbpbgaaGreatDoorFmt
set_option linter.unusedVariables false
namespace Go.Proofs.YtbfmjbkhnbpbgaaGreatDoor.H
open Go.RowKit Go.Proofs.YtbfmjbkhnbpbgaaGreatDoorW.PrintWords Go.Proofs.YtbfmjbkhnbpbgaaGreatDoorW.PrintLast Go.Proofs.YtbfmjbkhnbpbgaaGreatDoorW.PrintMore
open Go.Proofs.YtbfmjbkhnbpbgaaGreatDoor.PF Go.Proofs.YtbfmjbkhnbpbgaaGreatDoor.Pl
attribute [local go_sem] max2_int min2_int max_two min_two
theorem lowD_pad (u j : Nat) (h : u < 16 ^ j) : ∀ m, Lib.repeatL [48] m ++ lowD j u = lowD (m + j) u
  | 0 => by simp [Lib.repeatL]
  | m + 1 => by
    have h2 : u / 16 ^ (m + j) = 0 := Nat.div_eq_of_lt (Nat.lt_of_lt_of_le h (Nat.pow_le_pow_right (by decide) (by omega)))
    show [48] ++ Lib.repeatL [48] m ++ lowD j u = _
    rw [List.append_assoc, lowD_pad u j h m, show m + 1 + j = (m + j) + 1 by omega]
    show _ = hexd (u / 16 ^ (m + j) % 16) :: lowD (m + j) u
    rw [h2]
    rfl
/-- Three decimal digits. -/
def dec3 (n : Nat) : List UInt8 := [UInt8.ofNat (48 + n / 100), UInt8.ofNat (48 + n / 10 % 10), UInt8.ofNat (48 + n % 10)]
theorem dec3_pad (n : Nat) (h : n < 1000) : (Lib.decDigits n).length ≤ 3 ∧ Lib.repeatL [48] (3 - (Lib.decDigits n).length) ++ Lib.decDigits n = dec3 n := by
  by_cases h1 : n < 10
  · have e : Lib.decDigits n = [UInt8.ofNat (48 + n)] := by rw [Lib.decDigits, dif_pos h1]
    rw [e]
    refine ⟨by simp, ?_⟩
    have a1 : n / 100 = 0 := by omega
    have a2 : n / 10 = 0 := by omega
    have a3 : n % 10 = n := by omega
    simp only [dec3, a1, a2, a3]
    rfl
  · by_cases h2 : n < 100
    · have e : Lib.decDigits n = [UInt8.ofNat (48 + n / 10), UInt8.ofNat (48 + n % 10)] := by
        rw [Lib.decDigits, dif_neg h1, Lib.decDigits, dif_pos (by omega)]; rfl
      rw [e]
      refine ⟨by simp, ?_⟩
      have a1 : n / 100 = 0 := by omega
      have a2 : n / 10 % 10 = n / 10 := by omega
      simp only [dec3, a1, a2]
      rfl
    · have e : Lib.decDigits n = [UInt8.ofNat (48 + n / 10 / 10), UInt8.ofNat (48 + n / 10 % 10), UInt8.ofNat (48 + n % 10)] := by
        rw [Lib.decDigits, dif_neg h1, Lib.decDigits, dif_neg (by omega), Lib.decDigits, dif_pos (by omega)]; rfl
      rw [e]
      refine ⟨by simp, ?_⟩
      have a1 : n / 100 = n / 10 / 10 := by omega
      simp only [dec3, a1]
      rfl
theorem str_app (a b : List UInt8) : (⟨a.toArray⟩ : ByteArray) ++ ⟨b.toArray⟩ = ⟨(a ++ b).toArray⟩ := by
  apply ByteArray.ext
  simp
theorem str_size (a : List UInt8) : (⟨a.toArray⟩ : ByteArray).size = a.length := by simp [ByteArray.size]
theorem repeat' (s : ByteArray) (a : Int) (c : Nat) (w : World) (ha : a = c) (hc : c ≤ 1000) (hlen : s.size ≤ 1000) :
    Calls Tryz.prog 46 #[.string s, .int .i64 a] w fun e w' => e = .returned (.string ⟨(Lib.repeatL s.data.toList c).toArray⟩) ∧ Below w.heap.size w w' := by
  subst ha
  exact Tryz.strings_Repeat s c w (by omega) (Nat.le_trans (Nat.mul_le_mul hlen hc) (by decide))
theorem mx_sub (a b : Int) (h : b ≤ a) : mx (a - b) 0 = a - b := by unfold mx; omega
set_option maxHeartbeats 400000 in
set_option maxRecDepth 100000 in
theorem digits16 (u : Nat) (hu : u < 18446744073709551616) (w : World) (hg : Gl w) :
    Calls Tryz.prog 26 #[.int .u64 u, .int .i64 16, .int .i64 16] w fun e w' => e = .returned (.string ⟨(lowD 16 u).toArray⟩) ∧ Below w.heap.size w w' := by
  go_enter Tryz.func26, Tryz.ntmps26
  go_wp2_with fail
  refine (fmtHex u hu _ hg).mono ?_
  rintro e w1 ⟨⟨k, hk, hlt, rfl⟩, hb⟩
  have HB := Aside0.mk hb
  have HP := Aside0.mk (lowD_pad u (k + 1) hlt (15 - k))
  have hz := str_size (lowD (k + 1) u)
  rw [lowD_length] at hz
  obtain ⟨s, es⟩ : ∃ s, (⟨(lowD (k + 1) u).toArray⟩ : ByteArray) = s := ⟨_, rfl⟩
  rw [es] at hz ⊢
  have ES := Aside0.mk es
  clear hb hlt es hu
  go_wp2_with fail
  refine (repeat' _ _ (15 - k) _ (by omega) (by omega) (by decide)).mono ?_
  rintro e w' ⟨rfl, hb⟩
  have HB' := Aside0.mk (below_step HB.out hb)
  have HE := Aside0.mk (show (⟨(Lib.repeatL [48] (15 - k)).toArray⟩ : ByteArray) ++ s = ⟨(lowD 16 u).toArray⟩ by
    rw [← ES.out, str_app, HP.out, show 15 - k + (k + 1) = 16 by omega])
  have hr := str_size (Lib.repeatL [48] (15 - k))
  rw [Lib.repeatL_length, List.length_singleton, Nat.mul_one] at hr
  generalize (⟨(Lib.repeatL [48] (15 - k)).toArray⟩ : ByteArray) = r at hr HE ⊢
  clear hb HB HP
  go_wp2
  go_ret
  exact ⟨congrArg (fun z => Ending.returned (.string z)) HE.out, HB'.out⟩
set_option maxHeartbeats 400000 in
set_option maxRecDepth 100000 in
theorem digits10 (u : Nat) (hu : u < 1000) (w : World) (hg : Gl w) :
    Calls Tryz.prog 26 #[.int .u64 u, .int .i64 10, .int .i64 3] w fun e w' => e = .returned (.string ⟨(dec3 u).toArray⟩) ∧ Below w.heap.size w w' := by
  obtain ⟨h3, hp⟩ := dec3_pad u hu
  have HP := Aside0.mk hp
  have hz := str_size (Lib.decDigits u)
  obtain ⟨n, hn⟩ : ∃ n, (Lib.decDigits u).length = n := ⟨_, rfl⟩
  rw [hn] at hz h3 HP
  clear hp hn
  go_enter Tryz.func26, Tryz.ntmps26
  go_wp2_with fail
  refine (fmtDec u (by omega) _ hg).mono ?_
  rintro e w1 ⟨rfl, hb⟩
  have HB := Aside0.mk hb
  obtain ⟨s, es⟩ : ∃ s, (⟨(Lib.decDigits u).toArray⟩ : ByteArray) = s := ⟨_, rfl⟩
  rw [es] at hz ⊢
  have ES := Aside0.mk es
  clear hb es hu
  go_wp2_with fail
  refine (repeat' _ _ (3 - n) _ (by omega) (by omega) (by decide)).mono ?_
  rintro e w' ⟨rfl, hb⟩
  have HB' := Aside0.mk (below_step HB.out hb)
  have HE := Aside0.mk (show (⟨(Lib.repeatL [48] (3 - n)).toArray⟩ : ByteArray) ++ s = ⟨(dec3 u).toArray⟩ by
    rw [← ES.out, str_app, HP.out])
  have hr := str_size (Lib.repeatL [48] (3 - n))
  rw [Lib.repeatL_length, List.length_singleton, Nat.mul_one] at hr
  generalize (⟨(Lib.repeatL [48] (3 - n)).toArray⟩ : ByteArray) = r at hr HE ⊢
  clear hb HB HP
  go_wp2
  go_ret
  exact ⟨congrArg (fun z => Ending.returned (.string z)) HE.out, HB'.out⟩
/-- A name's bytes: of the one-letter kinds, of a page, of none. -/
def nameW (u : Nat) (c : UInt8) : List UInt8 := [98, 47] ++ lowD 16 u ++ [47, c]
def nameP (u n : Nat) : List UInt8 := [98, 47] ++ lowD 16 u ++ [47, 112] ++ dec3 n
theorem digits10' (a : Int) (u : Nat) (ha : a = u) (hu : u < 1000) (w : World) (hg : Gl w) :
    Calls Tryz.prog 26 #[.int .u64 a, .int .i64 10, .int .i64 3] w fun e w' => e = .returned (.string ⟨(dec3 u).toArray⟩) ∧ Below w.heap.size w w' := by
  subst ha
  exact digits10 u hu w hg
theorem str3 (a b c d : List UInt8) : (⟨a.toArray⟩ : ByteArray) ++ ⟨b.toArray⟩ ++ ⟨c.toArray⟩ ++ ⟨d.toArray⟩ = ⟨(a ++ b ++ c ++ d).toArray⟩ := by rw [str_app, str_app, str_app]
set_option maxHeartbeats 400000 in
set_option maxRecDepth 100000 in
theorem name_p (u : Nat) (pg : Int) (n : Nat) (hu : u < 18446744073709551616) (w : World) (hg : Gl w) (h2 : pg ≤ 9223372036854775807) (hn : (pg < 0 ∧ n = 0) ∨ (0 ≤ pg ∧ (n : Int) = pg % 1000)) :
    Calls Tryz.prog 12 #[.int .u64 u, .string ⟨#[112]⟩, .int .i64 pg] w fun e w' => e = .returned (.string ⟨(nameP u n).toArray⟩) ∧ Below w.heap.size w w' := by
  have HL := Aside0.mk (str3 [98, 47] (lowD 16 u) [47, 112] (dec3 n))
  have hn1 : n < 1000 := by omega
  have hz := str_size (lowD 16 u)
  rw [lowD_length] at hz
  have hd := str_size (dec3 n)
  rw [show (dec3 n).length = 3 from rfl] at hd
  obtain ⟨s, es⟩ : ∃ s, (⟨(lowD 16 u).toArray⟩ : ByteArray) = s := ⟨_, rfl⟩
  obtain ⟨d, ed⟩ : ∃ d, (⟨(dec3 n).toArray⟩ : ByteArray) = d := ⟨_, rfl⟩
  rw [es, ed] at HL
  rw [es] at hz
  rw [ed] at hd
  have ES := Aside0.mk es
  have ED := Aside0.mk ed
  clear es ed
  rcases hn with ⟨hneg, hn0⟩ | ⟨hpos, hn0⟩
  all_goals
    have HN := Aside0.mk hn0
    clear hn0
    go_enter Tryz.func12, Tryz.ntmps12
    go_wp2_with fail
    refine (digits16 u hu _ hg).mono ?_
    rintro e w1 ⟨rfl, hb⟩
    have HB := Aside0.mk hb
    clear hb
    rw [ES.out]
    go_wp2_with fail
    refine (digits10' _ n (by have := HN.out; omega) hn1 _ (hg.below HB.out)).mono ?_
    rintro e w2 ⟨rfl, hb⟩
    have HB' := Aside0.mk (below_step HB.out hb)
    clear hb HB
    rw [ED.out]
    go_wp2
    go_ret
    exact ⟨congrArg (fun z => Ending.returned (.string z)) HL.out, HB'.out⟩
set_option maxHeartbeats 400000 in
set_option maxRecDepth 100000 in
theorem name_w (u : Nat) (c : UInt8) (pg : Int) (hu : u < 18446744073709551616) (w : World) (hg : Gl w) (hc : c = 109 ∨ c = 105 ∨ c = 102 ∨ c = 120) :
    Calls Tryz.prog 12 #[.int .u64 u, .string ⟨#[c]⟩, .int .i64 pg] w fun e w' => e = .returned (.string ⟨(nameW u c).toArray⟩) ∧ Below w.heap.size w w' := by
  have HL := Aside0.mk (str3 [98, 47] (lowD 16 u) [47] [c])
  have hz := str_size (lowD 16 u)
  rw [lowD_length] at hz
  obtain ⟨s, es⟩ : ∃ s, (⟨(lowD 16 u).toArray⟩ : ByteArray) = s := ⟨_, rfl⟩
  rw [es] at HL
  rw [es] at hz
  have ES := Aside0.mk es
  clear es
  have HE := Aside0.mk (show (⟨#[98, 47]⟩ : ByteArray) ++ s ++ ⟨#[47]⟩ ++ ⟨#[c]⟩ = ⟨(nameW u c).toArray⟩ by
    rw [HL.out]; simp [nameW])
  clear HL
  have HK := Aside0.mk (show Calls Tryz.prog 27 #[.string ⟨#[109, 105, 102, 120]⟩, .string ⟨#[c]⟩] w fun e w' => e = .returned (.bool true) ∧ w' = w from
    (Tryz.strings_Contains_one ⟨#[109, 105, 102, 120]⟩ c w).mono (fun e w' ⟨h1, h2⟩ => ⟨h1.trans (by rcases hc with rfl | rfl | rfl | rfl <;> rfl), h2⟩))
  rcases hc with rfl | rfl | rfl | rfl
  all_goals
    go_enter Tryz.func12, Tryz.ntmps12
    go_wp2_with fail
    refine HK.out.mono ?_
    rintro e w' ⟨rfl, rfl⟩
    go_wp2_with fail
    refine (digits16 u hu _ hg).mono ?_
    rintro e w1 ⟨rfl, hb⟩
    have HB := Aside0.mk hb
    clear hb HK
    rw [ES.out]
    go_wp2
    go_ret
    exact ⟨congrArg (fun z => Ending.returned (.string z)) HE.out, HB.out⟩
set_option maxHeartbeats 400000 in
set_option maxRecDepth 100000 in
theorem name_q (u : Nat) (pg : Int) (w : World) :
    Calls Tryz.prog 12 #[.int .u64 u, .string ⟨#[113]⟩, .int .i64 pg] w fun e w' => e = .returned (.string ⟨#[]⟩) ∧ w' = w := by
  have HK := Aside0.mk (show Calls Tryz.prog 27 #[.string ⟨#[109, 105, 102, 120]⟩, .string ⟨#[113]⟩] w fun e w' => e = .returned (.bool false) ∧ w' = w from
    (Tryz.strings_Contains_one ⟨#[109, 105, 102, 120]⟩ 113 w).mono (fun e w' ⟨h1, h2⟩ => ⟨h1.trans rfl, h2⟩))
  go_enter Tryz.func12, Tryz.ntmps12
  go_wp2_with fail
  refine HK.out.mono ?_
  rintro e w' ⟨rfl, rfl⟩
  go_wp2
  go_ret
  exact ⟨rfl, rfl⟩
end Go.Proofs.YtbfmjbkhnbpbgaaGreatDoor.H
