/- Splitting at a slash: plain laws, and the contract at three parts. -/
import Derived.Test.YtbfmjbkhnbpbgaaGreatDoorParse
import Derived.Lib.SplitLaws
import Derived.Lib.CountLaws
set_option linter.unusedVariables false
namespace Go.Proofs.YtbfmjbkhnbpbgaaGreatDoor.H
open Go.RowKit Go.Proofs.YtbfmjbkhnbpbgaaGreatDoorW.PrintWords Go.Proofs.YtbfmjbkhnbpbgaaGreatDoorW.PrintLast Go.Proofs.YtbfmjbkhnbpbgaaGreatDoorW.PrintMore
open Go.Proofs.YtbfmjbkhnbpbgaaGreatDoor.PF Go.Proofs.YtbfmjbkhnbpbgaaGreatDoor.Pl
theorem index_hit (c : UInt8) : ∀ (a r : List UInt8), c ∉ a → Lib.index (a ++ c :: r) [c] = (a.length : Int)
  | [], r, _ => by
    show Lib.index (c :: r) [c] = 0
    unfold Lib.index
    rw [if_pos (by simp [List.isPrefixOf])]
  | b :: a, r, h => by
    have hb : b ≠ c := fun e => h (by simp [e])
    have ih := index_hit c a r (fun hm => h (by simp [hm]))
    show Lib.index (b :: (a ++ c :: r)) [c] = _
    unfold Lib.index
    have hp : ([c] : List UInt8).isPrefixOf (b :: (a ++ c :: r)) = false := by simp [List.isPrefixOf, Ne.symm hb]
    rw [hp, ih]
    rw [if_neg (by decide), if_neg (by simp), List.length_cons]
    omega
theorem index_miss (c : UInt8) : ∀ (a : List UInt8), c ∉ a → Lib.index a [c] = -1
  | [], _ => by unfold Lib.index; rfl
  | b :: a, h => by
    have hb : b ≠ c := fun e => h (by simp [e])
    have ih := index_miss c a (fun hm => h (by simp [hm]))
    unfold Lib.index
    have hp : ([c] : List UInt8).isPrefixOf (b :: a) = false := by simp [List.isPrefixOf, Ne.symm hb]
    rw [hp, ih]
    rfl
theorem count3 (c : UInt8) (a b d : List UInt8) (ha : c ∉ a) (hb : c ∉ b) (hd : c ∉ d) : Lib.count (a ++ c :: (b ++ c :: d)) [c] = 2 := by
  rw [Lib.count_hit (by simp) (index_hit c a _ ha), show (a ++ c :: (b ++ c :: d)).drop (a.length + [c].length) = b ++ c :: d by simp,
    Lib.count_hit (by simp) (index_hit c b _ hb), show (b ++ c :: d).drop (b.length + [c].length) = d by simp, Lib.count_miss (index_miss c d hd)]
theorem splitK3 (c : UInt8) (a b d : List UInt8) (ha : c ∉ a) (hb : c ∉ b) : Lib.splitK [c] 0 2 (a ++ c :: (b ++ c :: d)) = [a, b, d] := by
  have h1 := index_hit c a (b ++ c :: d) ha
  have h2 := index_hit c b d hb
  unfold Lib.splitK
  rw [h1, if_neg (by simp)]
  unfold Lib.splitK
  rw [show (a ++ c :: (b ++ c :: d)).drop ((a.length : Int).toNat + [c].length) = b ++ c :: d by simp, h2, if_neg (by simp)]
  unfold Lib.splitK
  simp
theorem bytes_of_data (l : List ByteArray) (a b d : List UInt8) (h : l.map (·.data.toList) = [a, b, d]) : l = [⟨a.toArray⟩, ⟨b.toArray⟩, ⟨d.toArray⟩] := by
  match l, h with
  | [x, y, z], h =>
    simp only [List.map_cons, List.map_nil, List.cons.injEq, and_true] at h
    obtain ⟨h1, h2, h3⟩ := h
    subst h1 h2 h3
    rfl
theorem split3 (w : World) (hg : Gl w) (a b d : List UInt8) (ha : 47 ∉ a) (hb : 47 ∉ b) (hd : 47 ∉ d) (hl : (a ++ 47 :: (b ++ 47 :: d)).length ≤ 1000) :
    Calls Tryz.prog 22 #[.string ⟨(a ++ 47 :: (b ++ 47 :: d)).toArray⟩, .string ⟨#[47]⟩] w fun e w' => e = .returned (.slice (some ⟨w.heap.size, 0, none⟩) 3 3) ∧ w' = w.alloc (.cells #[.string ⟨a.toArray⟩, .string ⟨b.toArray⟩, .string ⟨d.toArray⟩] 9) := by
  refine (Tryz.strings_Split_shaped ⟨(a ++ 47 :: (b ++ 47 :: d)).toArray⟩ ⟨#[47]⟩ w hg.sh (by rw [str_size]; omega) (by decide)).mono ?_
  rintro e w' ⟨rfl, rfl⟩
  have hc : Lib.countB ⟨(a ++ 47 :: (b ++ 47 :: d)).toArray⟩ ⟨#[47]⟩ = 2 := count3 47 a b d ha hb hd
  have hs := bytes_of_data (Lib.splitB ⟨#[47]⟩ 0 2 ⟨(a ++ 47 :: (b ++ 47 :: d)).toArray⟩) a b d (by rw [Lib.splitB_data]; exact splitK3 47 a b d ha hb)
  rw [hc, hs]
  exact ⟨rfl, rfl⟩
theorem hexd_ne (d : Nat) (h : d < 16) : hexd d ≠ 47 := by
  obtain rfl | rfl | rfl | rfl | rfl | rfl | rfl | rfl | rfl | rfl | rfl | rfl | rfl | rfl | rfl | rfl : d = 0 ∨ d = 1 ∨ d = 2 ∨ d = 3 ∨ d = 4 ∨ d = 5 ∨ d = 6 ∨ d = 7 ∨ d = 8 ∨ d = 9 ∨ d = 10 ∨ d = 11 ∨ d = 12 ∨ d = 13 ∨ d = 14 ∨ d = 15 := by omega
  all_goals decide
theorem lowD_ne : ∀ k u, (47 : UInt8) ∉ lowD k u
  | 0, _ => by simp [lowD]
  | k + 1, u => by
    intro h
    rcases List.mem_cons.1 h with h | h
    · exact hexd_ne _ (Nat.mod_lt _ (by decide)) h.symm
    · exact lowD_ne k u h
theorem dec3_all : ∀ n : Fin 1000, Lib.atoi (dec3 n.val) = some (n.val : Int) ∧ (47 : UInt8) ∉ dec3 n.val := by decide +kernel
theorem dec3_atoi (n : Nat) (h : n < 1000) : Lib.atoi (dec3 n) = some (n : Int) := (dec3_all ⟨n, h⟩).1
theorem dec3_ne (n : Nat) (h : n < 1000) : (47 : UInt8) ∉ dec3 n := (dec3_all ⟨n, h⟩).2
end Go.Proofs.YtbfmjbkhnbpbgaaGreatDoor.H
