/- What the reference's reader answers; what is got of any bytes. Plain laws. -/
import Derived.Test.YtbfmjbkhnbpbgaaGreatDoorMget
set_option linter.unusedVariables false
set_option linter.unusedSimpArgs false
namespace Go.Proofs.YtbfmjbkhnbpbgaaGreatDoor.H
open Go.RowKit Go.Proofs.YtbfmjbkhnbpbgaaGreatDoorW.PrintWords Go.Proofs.YtbfmjbkhnbpbgaaGreatDoorW.PrintLast Go.Proofs.YtbfmjbkhnbpbgaaGreatDoorW.PrintMore
open Go.Proofs.YtbfmjbkhnbpbgaaGreatDoor.PF Go.Proofs.YtbfmjbkhnbpbgaaGreatDoor.Pl
theorem rd_cut (l : List Int) (i w j : Nat) (hj : j < w) (hl : i + w ≤ l.length) : rd ((l.drop i).take w) (j : Int) = rd l ((i + j : Nat) : Int) := by
  unfold rd
  rw [Int.toNat_natCast, Int.toNat_natCast, List.getD_eq_getElem?_getD, List.getD_eq_getElem?_getD, List.getElem?_take, if_pos hj, List.getElem?_drop]
theorem refW_l0 (l : List Int) (hb : Bytes l) (i w : Nat) (hw : w ≤ 8) (hl : i + w ≤ l.length) (hn : l.length ≤ 140737488355328) : ∀ (d j k : Nat), j + d = w → d < k →
    tankardref01_Reader_Word.l0 k (w : Int) ((deN (((l.drop i).take w).take j) : Nat) : Int) (j : Int) l (i : Int) (-1) = some (((deN ((l.drop i).take w) : Nat) : Int), ((i + w : Nat) : Int), -1)
  | 0, j, k, hj, hk => by
    obtain ⟨k, rfl⟩ : ∃ m, k = m + 1 := ⟨k - 1, by omega⟩
    unfold tankardref01_Reader_Word.l0
    rw [if_neg (by omega), List.take_of_length_le (by rw [List.length_take]; omega), show wrap64 ((i : Int) + (w : Int)) = ((i + w : Nat) : Int) by unfold wrap64; omega]
  | d + 1, j, k, hj, hk => by
    obtain ⟨k, rfl⟩ : ∃ m, k = m + 1 := ⟨k - 1, by omega⟩
    have htl : ((l.drop i).take w).length = w := by rw [List.length_take, List.length_drop]; omega
    have hbt : Bytes ((l.drop i).take w) := fun x hx => hb x (List.mem_of_mem_drop (List.mem_of_mem_take hx))
    have e1 : wrap64 ((i : Int) + (j : Int)) = ((i + j : Nat) : Int) := by unfold wrap64; omega
    have e2 : wrap64 ((j : Int) + 1) = ((j + 1 : Nat) : Int) := by unfold wrap64; omega
    unfold tankardref01_Reader_Word.l0
    rw [if_pos (by omega), e1, if_pos (by omega), if_pos (by omega), e2]
    have hd := deN_take ((l.drop i).take w) j (by omega)
    obtain ⟨h0, h1⟩ := hbt.rd j (by omega)
    rw [rd_cut l i w j (by omega) hl] at hd h0 h1
    have hdl : deN (((l.drop i).take w).take j) < 256 ^ j := by
      have := deN_lt (((l.drop i).take w).take j) (fun x hx => hbt x (List.mem_of_mem_take hx))
      rwa [List.length_take, Nat.min_eq_left (by omega)] at this
    have h256 : 256 ^ j ≤ 72057594037927936 := by
      calc 256 ^ j ≤ 256 ^ 7 := Nat.pow_le_pow_right (by decide) (by omega)
        _ = 72057594037927936 := by decide
    have e3 : IntKind.u64.wrap (IntKind.u64.wrap (256 * ((deN (((l.drop i).take w).take j) : Nat) : Int)) + IntKind.u64.wrap (rd l ((i + j : Nat) : Int))) = ((deN (((l.drop i).take w).take (j + 1)) : Nat) : Int) := by
      rw [hd, IntKind.wrap_u64, IntKind.wrap_u64, IntKind.wrap_u64]
      omega
    rw [e3]
    exact refW_l0 l hb i w hw hl hn d (j + 1) k (by omega) (by omega)
theorem refW_f (l : List Int) (hb : Bytes l) (i w k : Nat) (hw : w = 1 ∨ w = 2 ∨ w = 4 ∨ w = 8) (hl : i + w ≤ l.length) (hn : l.length ≤ 140737488355328) (hk : 10 ≤ k) :
    tankardref01_Reader_Word.f k l (i : Int) (-1) (w : Int) = some (((deN ((l.drop i).take w) : Nat) : Int), ((i + w : Nat) : Int), -1) := by
  obtain ⟨k, rfl⟩ : ∃ m, k = m + 1 := ⟨k - 1, by omega⟩
  have hW : tankardref01_Wide.f (w : Int) = some true := by rcases hw with rfl | rfl | rfl | rfl <;> rfl
  have h := refW_l0 l hb i w (by omega) hl hn w 0 k (by omega) (by omega)
  have e0 : ((deN (((l.drop i).take w).take 0) : Nat) : Int) = 0 := by rw [List.take_zero]; rfl
  rw [e0, show ((0 : Nat) : Int) = 0 from rfl] at h
  have hj : tankardref01_Reader_Word.j0 (k + 1) (w : Int) false l (i : Int) (-1) = tankardref01_Reader_Word.l0 k (w : Int) 0 0 l (i : Int) (-1) := by
    rw [tankardref01_Reader_Word.j0]
    exact if_neg (by decide)
  have hd : decide (wrap64 ((i : Int) + (w : Int)) > (l.length : Int)) = false := decide_eq_false (by unfold wrap64; omega)
  have hn1 : ¬ ((-1 : Int) ≥ 0) := by decide
  unfold tankardref01_Reader_Word.f
  rw [hW, Option.bind_some, if_neg hn1, if_pos rfl, hd, hj]
  exact h
/-- One word: either there, or missing. -/
theorem word_case (l : List Int) (i w : Nat) (b : Int) : (b = -1 ∧ i + w ≤ l.length ∧ wordV l i w b = deN ((l.drop i).take w) ∧ wordI l i w b = i + w ∧ wordB l i w b = -1) ∨ ((b ≠ -1 ∨ l.length < i + w) ∧ wordI l i w b = i ∧ (wordB l i w b = if b = -1 then (i : Int) else b)) := by
  unfold wordV wordI wordB badAt
  by_cases h : b = -1 ∧ i + w ≤ l.length
  · exact Or.inl ⟨h.1, h.2, by rw [if_pos h], by rw [if_pos h], by rw [if_pos h]⟩
  · refine Or.inr ⟨?_, by rw [if_neg h], by rw [if_neg h]⟩
    by_cases hb : b = -1
    · exact Or.inr (by by_cases hl : i + w ≤ l.length; exact absurd ⟨hb, hl⟩ h; omega)
    · exact Or.inl hb
/-- Of 31 bytes all is read; of any other number not. -/
theorem get1_31 {l : List Int} (hl : l.length = 31) {v0 v1 v2 v3 v4 v5 i : Nat} {b : Int} (h : get1Reads l v0 v1 v2 v3 v4 v5 i b) :
    v0 = deN ((l.drop 0).take 8) ∧ v1 = deN ((l.drop 8).take 8) ∧ v2 = deN ((l.drop 16).take 8) ∧ v3 = deN ((l.drop 24).take 1) ∧ v4 = deN ((l.drop 25).take 2) ∧ v5 = deN ((l.drop 27).take 4) ∧ i = 31 ∧ b = -1 := by
  obtain ⟨i1, i2, i3, i4, i5, b1, b2, b3, b4, b5, ⟨e0, f0, g0⟩, ⟨e1, f1, g1⟩, ⟨e2, f2, g2⟩, ⟨e3, f3, g3⟩, ⟨e4, f4, g4⟩, ⟨e5, f5, g5⟩⟩ := h
  rcases word_case l 0 8 (-1) with ⟨_, _, x1, x2, x3⟩ | ⟨h, _, _⟩
  case inr => omega
  rw [x1] at e0; rw [x2] at f0; rw [x3] at g0
  subst f0 g0
  rcases word_case l (0 + 8) 8 (-1) with ⟨_, _, x1, x2, x3⟩ | ⟨h, _, _⟩
  case inr => omega
  rw [x1] at e1; rw [x2] at f1; rw [x3] at g1
  subst f1 g1
  rcases word_case l (0 + 8 + 8) 8 (-1) with ⟨_, _, x1, x2, x3⟩ | ⟨h, _, _⟩
  case inr => omega
  rw [x1] at e2; rw [x2] at f2; rw [x3] at g2
  subst f2 g2
  rcases word_case l (0 + 8 + 8 + 8) 1 (-1) with ⟨_, _, x1, x2, x3⟩ | ⟨h, _, _⟩
  case inr => omega
  rw [x1] at e3; rw [x2] at f3; rw [x3] at g3
  subst f3 g3
  rcases word_case l (0 + 8 + 8 + 8 + 1) 2 (-1) with ⟨_, _, x1, x2, x3⟩ | ⟨h, _, _⟩
  case inr => omega
  rw [x1] at e4; rw [x2] at f4; rw [x3] at g4
  subst f4 g4
  rcases word_case l (0 + 8 + 8 + 8 + 1 + 2) 4 (-1) with ⟨_, _, x1, x2, x3⟩ | ⟨h, _, _⟩
  case inr => omega
  rw [x1] at e5; rw [x2] at f5; rw [x3] at g5
  exact ⟨e0, e1, e2, e3, e4, e5, f5, g5⟩
theorem get1_other {l : List Int} (hl : l.length ≠ 31) {v0 v1 v2 v3 v4 v5 i : Nat} {b : Int} (h : get1Reads l v0 v1 v2 v3 v4 v5 i b) : ¬ (b < 0 ∧ l.length ≤ i) := by
  obtain ⟨i1, i2, i3, i4, i5, b1, b2, b3, b4, b5, ⟨e0, f0, g0⟩, ⟨e1, f1, g1⟩, ⟨e2, f2, g2⟩, ⟨e3, f3, g3⟩, ⟨e4, f4, g4⟩, ⟨e5, f5, g5⟩⟩ := h
  clear e0 e1 e2 e3 e4 e5
  have bad : ∀ (b : Int) (i w : Nat), 0 ≤ b → wordB l i w b = b := by
    intro b i w hb
    rcases word_case l i w b with ⟨h, _⟩ | ⟨_, _, h⟩
    · omega
    · rw [h, if_neg (by omega)]
  rintro ⟨h1, h2⟩
  rcases word_case l 0 8 (-1) with ⟨_, _, _, x2, x3⟩ | ⟨_, _, x3⟩
  case inr =>
    rw [if_pos rfl] at x3
    rw [x3] at g0
    rw [g0, bad _ _ _ (by omega)] at g1
    rw [g1, bad _ _ _ (by omega)] at g2
    rw [g2, bad _ _ _ (by omega)] at g3
    rw [g3, bad _ _ _ (by omega)] at g4
    rw [g4, bad _ _ _ (by omega)] at g5
    omega
  rw [x2] at f0; rw [x3] at g0
  subst f0 g0
  rcases word_case l (0 + 8) 8 (-1) with ⟨_, _, _, x2, x3⟩ | ⟨_, _, x3⟩
  case inr =>
    rw [if_pos rfl] at x3
    rw [x3] at g1
    rw [g1, bad _ _ _ (by omega)] at g2
    rw [g2, bad _ _ _ (by omega)] at g3
    rw [g3, bad _ _ _ (by omega)] at g4
    rw [g4, bad _ _ _ (by omega)] at g5
    omega
  rw [x2] at f1; rw [x3] at g1
  subst f1 g1
  rcases word_case l (0 + 8 + 8) 8 (-1) with ⟨_, _, _, x2, x3⟩ | ⟨_, _, x3⟩
  case inr =>
    rw [if_pos rfl] at x3
    rw [x3] at g2
    rw [g2, bad _ _ _ (by omega)] at g3
    rw [g3, bad _ _ _ (by omega)] at g4
    rw [g4, bad _ _ _ (by omega)] at g5
    omega
  rw [x2] at f2; rw [x3] at g2
  subst f2 g2
  rcases word_case l (0 + 8 + 8 + 8) 1 (-1) with ⟨_, _, _, x2, x3⟩ | ⟨_, _, x3⟩
  case inr =>
    rw [if_pos rfl] at x3
    rw [x3] at g3
    rw [g3, bad _ _ _ (by omega)] at g4
    rw [g4, bad _ _ _ (by omega)] at g5
    omega
  rw [x2] at f3; rw [x3] at g3
  subst f3 g3
  rcases word_case l (0 + 8 + 8 + 8 + 1) 2 (-1) with ⟨_, _, _, x2, x3⟩ | ⟨_, _, x3⟩
  case inr =>
    rw [if_pos rfl] at x3
    rw [x3] at g4
    rw [g4, bad _ _ _ (by omega)] at g5
    omega
  rw [x2] at f4; rw [x3] at g4
  subst f4 g4
  rcases word_case l (0 + 8 + 8 + 8 + 1 + 2) 4 (-1) with ⟨_, _, _, x2, x3⟩ | ⟨_, _, x3⟩
  case inr =>
    rw [if_pos rfl] at x3
    omega
  omega
end Go.Proofs.YtbfmjbkhnbpbgaaGreatDoor.H
