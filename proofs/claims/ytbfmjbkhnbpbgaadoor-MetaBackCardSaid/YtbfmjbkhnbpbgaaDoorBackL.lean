/- What was put is read again; names that are unlike; a byte that is changed. Plain laws. -/
import Derived.Test.YtbfmjbkhnbpbgaaDoorMget
import Derived.Test.YtbfmjbkhnbpbgaaDoorName
set_option linter.unusedVariables false
set_option linter.unusedSimpArgs false
namespace Go.Proofs.YtbfmjbkhnbpbgaaDoor.H
open Go.RowKit Go.Proofs.YtbfmjbkhnbpbgaaDoorW.PrintWords Go.Proofs.YtbfmjbkhnbpbgaaDoorW.PrintLast Go.Proofs.YtbfmjbkhnbpbgaaDoorW.PrintMore
open Go.Proofs.YtbfmjbkhnbpbgaaDoor.PF Go.Proofs.YtbfmjbkhnbpbgaaDoor.Pl
theorem word_put {l p q : List Int} {w n i : Nat} (hl : l = p ++ (beN w n ++ q)) (hi : i = p.length) (hn : n < 256 ^ w) : wordV l i w (-1) = n ∧ wordI l i w (-1) = i + w ∧ wordB l i w (-1) = -1 := by
  have hlen : i + w ≤ l.length := by rw [hl, hi]; simp [beN_length]
  unfold wordV wordI wordB
  rw [if_pos ⟨rfl, hlen⟩, if_pos ⟨rfl, hlen⟩, if_pos ⟨rfl, hlen⟩]
  refine ⟨?_, rfl, rfl⟩
  rw [hl, hi, List.drop_left' rfl, List.take_left' (beN_length w n), deN_beN w n hn]
theorem get1_of_put {a b c d e f : Int} (ho : MetaOk a b c d e f) (ha : a < 18446744073709551616) {v0 v1 v2 v3 v4 v5 i : Nat} {bad : Int} (h : get1Reads (flatB (metaF a b c d e f)) v0 v1 v2 v3 v4 v5 i bad) :
    (v0 : Int) = a ∧ wrap64 (v1 : Nat) = c ∧ wrap64 (v2 : Nat) = d ∧ wrap64 (v3 : Nat) = b ∧ wrap64 (v4 : Nat) = e ∧ wrap64 (v5 : Nat) = f ∧ i = (flatB (metaF a b c d e f)).length ∧ bad = -1 := by
  have o1 := ho.id; have o2 := ho.lo; have o3 := ho.hi; have o4 := ho.st; have o5 := ho.se; have o6 := ho.en; have o7 := ho.p1; have o8 := ho.p2; have o9 := ho.t1; have o10 := ho.t2
  have hl : flatB (metaF a b c d e f) = beN 8 a.toNat ++ (beN 8 c.toNat ++ (beN 8 d.toNat ++ (beN 1 b.toNat ++ (beN 2 e.toNat ++ (beN 4 f.toNat ++ []))))) := by
    simp [flatB, metaF]
  obtain ⟨l, el⟩ : ∃ l, flatB (metaF a b c d e f) = l := ⟨_, rfl⟩
  rw [el] at h hl ⊢
  obtain ⟨i1, i2, i3, i4, i5, b1, b2, b3, b4, b5, h0, h1, h2, h3, h4, h5⟩ := h
  have p0 := word_put (l := l) (p := []) (w := 8) (n := a.toNat) (i := 0) (q := (beN 8 c.toNat ++ (beN 8 d.toNat ++ (beN 1 b.toNat ++ (beN 2 e.toNat ++ (beN 4 f.toNat ++ [])))))) (by rw [hl]; first | done | simp) (by first | rfl | simp [beN_length]) (by omega)
  obtain ⟨e0, ei, eb⟩ := h0
  rw [p0.1] at e0
  rw [p0.2.1] at ei
  rw [p0.2.2] at eb
  subst e0 ei eb
  have p1 := word_put (l := l) (p := beN 8 a.toNat) (w := 8) (n := c.toNat) (i := 0 + 8) (q := (beN 8 d.toNat ++ (beN 1 b.toNat ++ (beN 2 e.toNat ++ (beN 4 f.toNat ++ []))))) (by rw [hl]; first | done | simp) (by first | rfl | simp [beN_length]) (by omega)
  obtain ⟨e1, ei, eb⟩ := h1
  rw [p1.1] at e1
  rw [p1.2.1] at ei
  rw [p1.2.2] at eb
  subst e1 ei eb
  have p2 := word_put (l := l) (p := beN 8 a.toNat ++ beN 8 c.toNat) (w := 8) (n := d.toNat) (i := 0 + 8 + 8) (q := (beN 1 b.toNat ++ (beN 2 e.toNat ++ (beN 4 f.toNat ++ [])))) (by rw [hl]; first | done | simp) (by first | rfl | simp [beN_length]) (by omega)
  obtain ⟨e2, ei, eb⟩ := h2
  rw [p2.1] at e2
  rw [p2.2.1] at ei
  rw [p2.2.2] at eb
  subst e2 ei eb
  have p3 := word_put (l := l) (p := beN 8 a.toNat ++ beN 8 c.toNat ++ beN 8 d.toNat) (w := 1) (n := b.toNat) (i := 0 + 8 + 8 + 8) (q := (beN 2 e.toNat ++ (beN 4 f.toNat ++ []))) (by rw [hl]; first | done | simp) (by first | rfl | simp [beN_length]) (by omega)
  obtain ⟨e3, ei, eb⟩ := h3
  rw [p3.1] at e3
  rw [p3.2.1] at ei
  rw [p3.2.2] at eb
  subst e3 ei eb
  have p4 := word_put (l := l) (p := beN 8 a.toNat ++ beN 8 c.toNat ++ beN 8 d.toNat ++ beN 1 b.toNat) (w := 2) (n := e.toNat) (i := 0 + 8 + 8 + 8 + 1) (q := (beN 4 f.toNat ++ [])) (by rw [hl]; first | done | simp) (by first | rfl | simp [beN_length]) (by omega)
  obtain ⟨e4, ei, eb⟩ := h4
  rw [p4.1] at e4
  rw [p4.2.1] at ei
  rw [p4.2.2] at eb
  subst e4 ei eb
  have p5 := word_put (l := l) (p := beN 8 a.toNat ++ beN 8 c.toNat ++ beN 8 d.toNat ++ beN 1 b.toNat ++ beN 2 e.toNat) (w := 4) (n := f.toNat) (i := 0 + 8 + 8 + 8 + 1 + 2) (q := []) (by rw [hl]; first | done | simp) (by first | rfl | simp [beN_length]) (by omega)
  obtain ⟨e5, ei, eb⟩ := h5
  rw [p5.1] at e5
  rw [p5.2.1] at ei
  rw [p5.2.2] at eb
  subst e5 ei eb
  unfold wrap64
  refine ⟨by omega, by omega, by omega, by omega, by omega, by omega, by rw [hl]; simp [beN_length], rfl⟩
theorem hexd_inj {x y : Nat} (hx : x < 16) (hy : y < 16) (h : hexd x = hexd y) : x = y := by
  have : ∀ x : Fin 16, ∀ y : Fin 16, hexd x.val = hexd y.val → x.val = y.val := by decide
  exact this ⟨x, hx⟩ ⟨y, hy⟩ h
theorem lowD_inj : ∀ (k u v : Nat), lowD k u = lowD k v → u % 16 ^ k = v % 16 ^ k
  | 0, u, v, _ => by simp [Nat.mod_one]
  | k + 1, u, v, h => by
    simp only [lowD, List.cons.injEq] at h
    have h1 := hexd_inj (Nat.mod_lt _ (by decide)) (Nat.mod_lt _ (by decide)) h.1
    have h2 := lowD_inj k u v h.2
    rw [Nat.pow_succ, Nat.mod_mul, Nat.mod_mul, h1, h2]
theorem nameW_eq (u v : Nat) (c d : UInt8) (hu : u < 18446744073709551616) (hv : v < 18446744073709551616) : (ByteArray.mk (nameW u c).toArray = ⟨(nameW v d).toArray⟩) ↔ (u = v ∧ c = d) := by
  constructor
  · intro h
    have h1 : nameW u c = nameW v d := by
      have := congrArg (fun s => s.data.toList) h
      simpa using this
    unfold nameW at h1
    have h2 := List.append_inj h1 (by simp [lowD_length])
    have h3 := List.append_inj h2.1 rfl
    have h4 := lowD_inj 16 u v h3.2
    have h5 : (47 : UInt8) = 47 ∧ c = d := by simpa using h2.2
    exact ⟨by omega, h5.2⟩
  · rintro ⟨rfl, rfl⟩; rfl
/-- A byte that is changed by another. -/
theorem xor_byte (x y : Nat) (hx : x < 256) (hy : y < 256) (h : y ≠ 0) : Go.bits .xor .u8 (x : Int) (y : Int) = ((x ^^^ y : Nat) : Int) ∧ x ^^^ y < 256 ∧ x ^^^ y ≠ x := by
  refine ⟨u8_xor_nat x y hx hy, Nat.xor_lt_two_pow (n := 8) hx hy, fun e => h ?_⟩
  have := congrArg (x ^^^ ·) e
  simpa [← Nat.xor_assoc] using this
end Go.Proofs.YtbfmjbkhnbpbgaaDoor.H
